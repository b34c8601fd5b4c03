/- Part 7 of the proof. -/
import Derived.WalkKit
import Derived.Test.YtgfijddlkhkopaaGreatU6
set_option linter.all false
open Nat renaming le_trans → ad, zero_le → aq, le_refl → au, lt_of_lt_of_le → av, zero_add → fe
open List renaming length_append → aa, append_assoc → ao, length_map → ah, take_of_length_le → az, range → dx, length_take → aB, length_singleton → cd, filter_cons → eo, map_append → aD, length_cons → aK, take_add_one → cj, replicate → gH, mem_cons_of_mem → bG, map_map → bz, length → ba, foldl_cons → ix, map_cons → bm, mem_singleton → aw, all_cons → iV, length_nil → br, mem_of_mem_take → dI, reverse_cons → uA, length_reverse → sH, foldl_append → Az, toList_toArray → cN, flatten_cons → cW, mem_of_getElem? → aA, not_mem_nil → dH, getElem?_append_right → cT, flatten_append → dO, take_append_drop → fq, take_left' → ig, take_length → jY
open BitVec renaming ofInt → aC
open Go.Value renaming cells → bf, slice → ti, tuple → di
open Go.Op renaming unary → bp
open Option.some renaming injEq → aj
open Go.Exit renaming inBlock → vD
open Go.Fence renaming wide → gh
open Go.IntKind renaming signed → jT, bits → mB
open Go.Instr renaming findNow → kr, checkKey → gS, mapUpdate → cI
open Go.WideElems renaming rg → mG, rd → rS
open Function renaming comp_def → jL
open Int renaming mul_lt_mul_of_pos_right → sB, toNat_of_nonneg → yN
open Option renaming getD_some → Bv, toList_some → zy
open Go.Builtin renaming max_ → kY, max2 → rT
namespace Go.Proofs.YtgfijddlkhkopaaGreat
open Go.Proofs.Tryz renaming prog → pg
open Go.aL Go.RowKit Go.Sort Ieee
set_option maxRecDepth 100000
set_option maxHeartbeats 4000000
def Jc (t:Nat):Nat:=(t % 2)*2^63+9218868437227405312+1+(t/2) % (2^52-1)
def Vg (op:BinOp) (x y:Nat) (w:World):Nat:=match floatBits op .f64 x y with|some r=>r|none=>Jc (w.tape w.drawn (.nanBits .f64 x y))
def Vh (op:BinOp) (x y:Nat) (w:World):World:=match floatBits op .f64 x y with|some _=>w|none=> { w with drawn:=w.drawn+1 }
def Gu (op:BinOp) (x y:Nat):Nat:=match floatBits op .f64 x y with|some r=>canon r|none=>9221120237041090560
theorem alo (f:Format) (n:Nat) (h:f.infRung<n % f.signWeight) (h2:f.binade<=f.infRung): ∃s q,f.read n= .nan s q:=by
 unfold Format.read;refine⟨n/f.signWeight % 2==1,n % f.signWeight-f.infRung,?_⟩
 grind
theorem ajb (t:Nat): ∃s q,(FloatKind.f64.format).read (Jc t)= .nan s q:=by
 have e1:FloatKind.f64.format.signWeight=9223372036854775808:=by decide
 have e2:FloatKind.f64.format.binade=4503599627370496:=by decide
 have e3:FloatKind.f64.format.infRung=9218868437227405312:=by decide
 refine alo _ _ ?_ ?_
 ·have e:Jc t=9223372036854775808*(t % 2)+(9218868437227405312+1+t/2 % 4503599627370495):=by
   show t % 2*9223372036854775808+9218868437227405312+1+t/2 % 4503599627370495=_
   omega
  rw[e1,e3,e,Nat.mul_add_mod,Nat.mod_eq_of_lt zQ];omega
 omega
theorem agA (t:Nat):canon (Jc t)=9221120237041090560:=by
 have h:px (Jc t) (Jc t)=false:=by
  obtain⟨s,q,e⟩:=ajb t;unfold px Format.order;rw[e];rfl
 unfold canon;rw[h];rfl
theorem Gv (op:BinOp) (x y:Nat) (w:World):canon (Vg op x y w)=Gu op x y:=by grind [Vg,Gu,agA]
theorem Nb (op:BinOp) (x y:Nat) (w:World):Ext w (Vh op x y w):=by
 unfold Vh;split
 ·exact⟨rfl,rfl,rfl,au _,λ_ _ _=>rfl⟩
 ·exact⟨rfl,rfl,rfl,au _,λ_ _ _=>rfl⟩
variable {w : World} {t : TypeId} {P : Program}
theorem Gw (op:BinOp) (h:op= .add\/op= .sub\/op= .mul\/op= .quo) (x y:Nat):(binOp op t (.float .f64 x) (.float .f64 y)).run P w= .ok (.float .f64 (Vg op x y w)) (Vh op x y w):=by
 unfold Vg Vh;cases hf:floatBits op .f64 x y with
 |some r=>grind [run_float_arith]
 |none=>
  unfold floatBits at hf;rcases h with rfl|rfl|rfl|rfl<;>simp only at hf<;>simp[binOp,Op.floatArith,hf,choose,Sem.run,Question.forced,Question.cut,Jc]
@[go_sem] theorem arI (x y:Nat):(binOp .add t (.float .f64 x) (.float .f64 y)).run P w= .ok (.float .f64 (Vg .add x y w)) (Vh .add x y w):=Gw _ sQ x y
@[go_sem] theorem arJ (x y:Nat):(binOp .sub t (.float .f64 x) (.float .f64 y)).run P w= .ok (.float .f64 (Vg .sub x y w)) (Vh .sub x y w):=Gw _ sQ x y
@[go_sem] theorem arK (x y:Nat):(binOp .mul t (.float .f64 x) (.float .f64 y)).run P w= .ok (.float .f64 (Vg .mul x y w)) (Vh .mul x y w):=Gw _ sQ x y
@[go_sem] theorem arL (x y:Nat):(binOp .quo t (.float .f64 x) (.float .f64 y)).run P w= .ok (.float .f64 (Vg .quo x y w)) (Vh .quo x y w):=Gw _ sQ x y
theorem agB (a b:Nat):Pure pg 350 #[.float .f64 a,.float .f64 b] (.float .f64 (Gu .add a b)):=by
 intro W
 go_enter Tryz.func350,Tryz.ntmps350
 go_wp2_with (go_at_call 347;refine(rj _ _).mono ?_;rintro e w1 ⟨rfl,x1⟩)
 all_goals (try simp only[vD,Exit.then])
 refine bodyPost_ret (v:=.float .f64 (Gu .add a b)) ?_ rfl ⟨rfl,(Nb _ _ _ _).trans x1⟩;rw[results_tmp (t:=4) (by rfl)];simp[Gv]
theorem agC (a b:Nat):Pure pg 351 #[.float .f64 a,.float .f64 b] (.float .f64 (Gu .sub a b)):=by
 intro W
 go_enter Tryz.func351,Tryz.ntmps351
 go_wp2_with (go_at_call 347;refine(rj _ _).mono ?_;rintro e w1 ⟨rfl,x1⟩)
 all_goals (try simp only[vD,Exit.then])
 refine bodyPost_ret (v:=.float .f64 (Gu .sub a b)) ?_ rfl ⟨rfl,(Nb _ _ _ _).trans x1⟩;rw[results_tmp (t:=4) (by rfl)];simp[Gv]
theorem agD (a b:Nat):Pure pg 352 #[.float .f64 a,.float .f64 b] (.float .f64 (Gu .mul a b)):=by
 intro W
 go_enter Tryz.func352,Tryz.ntmps352
 go_wp2_with (go_at_call 347;refine(rj _ _).mono ?_;rintro e w1 ⟨rfl,x1⟩)
 all_goals (try simp only[vD,Exit.then])
 refine bodyPost_ret (v:=.float .f64 (Gu .mul a b)) ?_ rfl ⟨rfl,(Nb _ _ _ _).trans x1⟩;rw[results_tmp (t:=4) (by rfl)];simp[Gv]
theorem agE (a b:Nat):Pure pg 353 #[.float .f64 a,.float .f64 b] (.float .f64 (Gu .quo a b)):=by
 intro W
 go_enter Tryz.func353,Tryz.ntmps353
 go_wp2_with (go_at_call 347;refine(rj _ _).mono ?_;rintro e w1 ⟨rfl,x1⟩)
 all_goals (try simp only[vD,Exit.then])
 refine bodyPost_ret (v:=.float .f64 (Gu .quo a b)) ?_ rfl ⟨rfl,(Nb _ _ _ _).trans x1⟩;rw[results_tmp (t:=4) (by rfl)];simp[Gv]
attribute [local irreducible] un jn jk iA ld1 su st1 kT kU oY rE pH Jp Ew gR gu aX lR lS eW eV eU eC eF gE mR fin iE bu dG vS NO Jq Jr Js Jt Ju NP NR NS NT FN FO Jv Jw Jx NU NV NW
def ior (a b:Int):Int:=IntKind.u64.wrap (aC IntKind.u64.bits a|||aC IntKind.u64.bits b).toNat
variable {N : Value -> Prop} {X : XS}
def apF {a b:Int} (h:N (.int .u64 (ior a b))):aX P X w (binOp .or t (.int .u64 a) (.int .u64 b)) N:=Qz h
theorem an4 {a:Int} (h:N (.int .u64 (I6 IntKind.u64.max a))):aX P X w (bp .xor (.int .u64 a)) N:=
 bF (λwa=>by simp[bp,Op.intBits,I6,jT]) h
def Ty (x:Nat):Int:=if land (canon x) 9223372036854775808≠0 then I6 IntKind.u64.max (canon x)else ior (canon x) 9223372036854775808
theorem aeS (x:Nat):Pure pg 367 #[.float .f64 x] (.int .u64 (Ty x)):=by
 intro w0;refine abo.1 λhs=>?_;repeat' first|refine ak ?_;intros|refine cQ ?_ ?_<;>intros|(refine ph (D9 _) hs ?_;intro w X hs)|(with_reducible refine fK hs ?_);(simp_all [Ty])|with_reducible (first|apply agp|apply apF|apply an4)
def aac (x y:Nat):Int:=if Ty x<Ty y then-1 else if Ty x>Ty y then 1 else 0
theorem Dy (x y:Nat):Pure pg 349 #[.float .f64 x,.float .f64 y] (I (aac x y)):=by
 intro w0;refine To.1 λhs=>?_;repeat' first|refine ak ?_;intros|refine cQ ?_ ?_<;>intros|(refine ph (aeS _) hs ?_;intro w X hs)|(with_reducible refine fK hs ?_);(simp_all [aac]<;>omega)
def Tz (a b:gL):Int:=
 if !a.may||!b.may then 0 else if a.kind<b.kind then-1 else if a.kind>b.kind then 1 else if a.kind=1 then aac a.num b.num else if zo a.text b.text then-1 else if a.text=b.text then 0 else 1
theorem Gx (a b:gL):Pure pg 309 #[a.v,b.v] (I (Tz a b)):=by
 intro w0;refine PF.1 λhs=>?_;repeat' first|refine ak ?_;intros|refine cQ ?_ ?_<;>intros|with_reducible apply cD|(refine kh (l7 _) hs ?_ ?_<;>intro _ w X hs)|(refine ph (Dy _ _) hs ?_;intro w X hs)|(with_reducible refine fK hs ?_);(simp_all [Tz]<;>omega)
def aad (a b:Nat):Nat:=if aac a b>0 then canon b else canon a
def aeT (a b:Nat):Nat:=if aac a b<0 then canon b else canon a
theorem abz (a b:Nat):Pure pg 354 #[.float .f64 a,.float .f64 b] (.float .f64 (aad a b)):=by
 intro w0;refine ZJ.1 λhs=>?_;repeat' first|refine ak ?_;intros|refine cQ ?_ ?_<;>intros|(refine ph (rj _) hs ?_;intro w X hs)|(refine ph (Dy _ _) hs ?_;intro w X hs)|(with_reducible refine fK hs ?_);(simp_all [aad]<;>omega)
theorem aeU (a b:Nat):Pure pg 355 #[.float .f64 a,.float .f64 b] (.float .f64 (aeT a b)):=by
 intro w0;refine abn.1 λhs=>?_;repeat' first|refine ak ?_;intros|refine cQ ?_ ?_<;>intros|(refine ph (rj _) hs ?_;intro w X hs)|(refine ph (Dy _ _) hs ?_;intro w X hs)|(with_reducible refine fK hs ?_);(simp_all [aeT]<;>omega)
def aae (x:Nat):gL:=⟨1,canon x,⟨#[]⟩⟩
theorem H2 (x:Nat):Pure pg 348 #[.float .f64 x] (aae x).v:=by
 intro w0;refine RN.1 λhs=>?_;repeat' first|refine ak ?_;intros|(refine ph (rj _) hs ?_;intro w X hs)|(with_reducible refine fK hs ?_);rfl
def aaf (b:Bool):gL:=if b then aae 4607182418800017408 else aae 0
theorem Mu (b:Bool):Pure pg 308 #[B b] (aaf b).v:=by
 intro w0;cases b;all_goals
  refine VO.1 λhs=>?_;repeat' first|refine ak ?_;intros|(refine ph (H2 _) hs ?_;intro w X hs)|(with_reducible refine fK hs ?_);rfl
def RX (v:gL):Bool:=if v.kind=1 then decide (cls v.num≠0/\cls v.num≠4/\cls v.num≠5)else if v.kind=2 then decide (v.text≠⟨#[]⟩)else false
theorem aag (v:gL):Pure pg 237 #[v.v] (B (RX v)):=by
 intro w0;refine VK.1 λhs=>?_;repeat' first|refine ak ?_;intros|refine cQ ?_ ?_<;>intros|(refine ph (Hc _) hs ?_;intro w X hs)|(with_reducible refine fK hs ?_);(simp_all [RX])
abbrev vE (e:Int):List PanicEntry:=[{ v:=.iface 291 (.agg #[I e]),recovered:=false }]
def TA (c:Int) (a b:Nat):Nat:=if c=5 then Gu .add a b else if c=6 then Gu .sub a b else if c=7 then Gu .mul a b else if c=8 then Gu .quo a b else if c=9 then aad a b else aeT a b
theorem V2 (c:Int) (a b:gL):EU pg 310 #[I c,a.v,b.v] w X nX (λv _ _=> ¬(a.kind=2\/b.kind=2)/\v=(aae (TA c a.num b.num)).v) (λch _ _=>(a.kind=2\/b.kind=2)/\ch=vE 23):=by
 intro w0 hk;have hF:FX nX (bK w0) w0:=λk af=>af.elim;have hT:=hF.ft (Kp.refl _ _);refine Ti.1 λhs=>?_;by_cases h:a.kind=2\/b.kind=2
 ·repeat' first|refine aJ ?_;intros|refine cQ ?_ ?_<;>intros|with_reducible apply cD|(with_reducible refine SE ?_ ?_);(· kernel_rfl)
  all_goals exact SF hs.has λwa nM=>(hT.since hs).jc nM ⟨h,rfl⟩
 ·repeat' first|refine aJ ?_;intros|refine cQ ?_ ?_<;>intros|with_reducible apply cD|(refine ph (H2 _) hs ?_;intro w X hs)|(refine ph (agB _ _) hs ?_;intro w X hs)|(refine ph (agC _ _) hs ?_;intro w X hs)|(refine ph (agD _ _) hs ?_;intro w X hs)|(refine ph (agE _ _) hs ?_;intro w X hs)|(refine ph (abz _ _) hs ?_;intro w X hs)|(refine ph (aeU _ _) hs ?_;intro w X hs)|(refine(hT.since hs).xN λwa aI=>⟨h,?_⟩;simp[TA, *];done)
open Go
def fcl:Datum->Int
 | .infinity true=> -1
 | .infinity false=>1
 |_=>0
def fvl (b:Int):Datum->Int
 | .number s m i=>signed s m (i-b).toNat
 |_=>0
def H3:Datum->Int
 | .number _ _ i=>i
 |_=>0
theorem Vi (s:Bool) (m u k:Nat):signed s m (u+k)=signed s m u*(2^k:Nat):=by
 unfold signed;simp only[Nat.shiftLeft_eq,Nat.pow_add]
 grind
theorem agF (x y:Int) (k:Nat):compare (x*(2^k:Nat)) (y*(2^k:Nat))=compare x y:=by
 have hp:(0:Int)<((2^k:Nat):Int):=by
  have:0<2^k:=Nat.two_pow_pos k;omega
 rcases Int.lt_trichotomy x y with h|h|h
 ·have:=sB h hp;rw[show compare x y= .lt from by simp[compare,compareOfLessAndEq,h],show compare (x*((2^k:Nat):Int)) (y*((2^k:Nat):Int))= .lt from by simp only[compare,compareOfLessAndEq];grind]
 ·grind
 ·have:=sB h hp;rw[show compare x y= .gt from by simp only[compare,compareOfLessAndEq];grind,show compare (x*((2^k:Nat):Int)) (y*((2^k:Nat):Int))= .gt from by simp only[compare,compareOfLessAndEq];grind]
theorem aah (b:Int) (x y:Datum) (hx:x.isNaN=false) (hy:y.isNaN=false) (bx:b<=H3 x) (by':b<=H3 y):
  x.order y=some (if fcl x<fcl y then .lt else if fcl y<fcl x then .gt else compare (fvl b x) (fvl b y)):=by
 cases x with
 |nan=>simp[Datum.isNaN] at hx
 |infinity s=>cases y with
  |nan=>simp[Datum.isNaN] at hy
  |infinity t=>cases s<;>cases t<;>rfl
  |number t n j=>cases s<;>rfl
 |number s m i=>cases y with
  |nan=>simp[Datum.isNaN] at hy
  |infinity t=>cases t<;>rfl
  |number t n j=>
   have bi:b<=i:=bx;have bj:b<=j:=by';have e1:(i-b).toNat=(i-min i j).toNat+(min i j-b).toNat:=by omega
   have e2:(j-b).toNat=(j-min i j).toNat+(min i j-b).toNat:=by omega
   show some (compare (signed s m (i-min i j).toNat) (signed t n (j-min i j).toNat))=some (compare (signed s m (i-b).toNat) (signed t n (j-b).toNat))
   rw[e1,e2,Vi,Vi,agF]
def fk (b:Int) (d:Datum):Int×Int:=(fcl d,fvl b d)
def kle (a b:Int×Int):Prop:=a.1<b.1\/a.1=b.1/\a.2<b.2
theorem an5 {x y:Int} :compare x y= .lt↔x<y:=by
 simp only[compare,compareOfLessAndEq]
 grind
variable {x y : Datum}
theorem yg {b:Int} (hx:x.isNaN=false) (hy:y.isNaN=false) (bx:b<=H3 x) (by':b<=H3 y):x.order y=some .lt↔kle (fk b x) (fk b y):=by
 rw[aah b x y hx hy bx by'];unfold kle fk;simp only[aj];split
 ·simp[*]
 ·split
  ·simp;omega
  ·rw[an5];omega
theorem Jd {b:Int} (hx:x.isNaN=false) (hy:y.isNaN=false) (bx:b<=H3 x) (by':b<=H3 y):x.order y=some .eq↔fk b x=fk b y:=by
 rw[aah b x y hx hy bx by'];unfold fk;simp only[aj,Prod.mk.injEq]
 grind
theorem Dd {o:Ordering} (h:x.order y=some o):x.isNaN=false/\y.isNaN=false:=by
 cases x<;>cases y<;>first|exact⟨rfl,rfl⟩|simp[Datum.order] at h
abbrev fd (a:Nat):Datum:=FloatKind.f64.format.read a
variable {b : Nat}
theorem Ww {a:Nat} :qp a b=true↔(fd a).order (fd b)=some .lt:=by unfold qp Format.order;simp
theorem aeV {a:Nat} :px a b=true↔(fd a).order (fd b)=some .eq:=by unfold px Format.order;simp
theorem three (x y z:Datum): ∃b:Int,b<=H3 x/\b<=H3 y/\b<=H3 z:=⟨min (H3 x) (min (H3 y) (H3 z)),by omega,by omega,by omega⟩
variable {c : Nat}
theorem agG {a:Nat} (h:qp a b=true) (k:qp b c=true):qp a c=true:=by
 rw[Ww] at*;obtain⟨p,p1,p2,p3⟩:=three (fd a) (fd b) (fd c);have n1:=Dd h;have n2:=Dd k;rw[yg n1.1 n1.2 p1 p2] at h;rw[yg n2.1 n2.2 p2 p3] at k;rw[yg n1.1 n2.2 p1 p3];unfold kle at*;omega
theorem alp {a:Nat} (h:qp a b=true) (k:px b c=true):qp a c=true:=by
 rw[Ww] at*;rw[aeV] at k;obtain⟨p,p1,p2,p3⟩:=three (fd a) (fd b) (fd c);have n1:=Dd h;have n2:=Dd k;rw[yg n1.1 n1.2 p1 p2] at h;rw[Jd n2.1 n2.2 p2 p3] at k;rw[yg n1.1 n2.2 p1 p3,<-k];exact h
theorem alq {a:Nat} (h:px a b=true) (k:qp b c=true):qp a c=true:=by
 rw[Ww] at*;rw[aeV] at h;obtain⟨p,p1,p2,p3⟩:=three (fd a) (fd b) (fd c);have n1:=Dd h;have n2:=Dd k;rw[Jd n1.1 n1.2 p1 p2] at h;rw[yg n2.1 n2.2 p2 p3] at k;rw[yg n1.1 n2.2 p1 p3,h];exact k
theorem acq {a:Nat} (h:px a b=true):px b a=true:=by
 rw[aeV] at*;obtain⟨p,p1,p2,_⟩:=three (fd a) (fd b) (fd b);have n1:=Dd h;rw[Jd n1.1 n1.2 p1 p2] at h;rw[Jd n1.2 n1.1 p2 p1];exact h.symm
theorem aeW (a:Nat):qp a a=false:=by
 cases h:qp a a with
 |false=>rfl
 |true=>
  rw[Ww] at h;have n1:=Dd h;rw[yg (b:=H3 (fd a)) n1.1 n1.2 (Int.le_refl _) (Int.le_refl _)] at h;unfold kle at h;omega
theorem abA {a:Nat} (h:qp a b=true):px a b=false:=by
 cases k:px a b with
 |false=>rfl
 |true=>
  have:=alp h (acq k)
  grind [aeW]
variable {rows : List (List Value)} {i k : Nat} {z : Int} {v : Value}
theorem ajc (h:Sl w X k v rows) (hz:z=i) (hi:i<=rows.length) (ht:P.underlying t=some (.slice (P.elem t))) (hs:(P.info? (P.elem t)).map (·.size)=some k)
  (n: ∀v',Sl w X k v' (rows.take i)->N v'):aX P X w (Instr.sliceAt t v none (some (.int .i64 z)) none) N:=by
 obtain⟨h1,h2,base,cap,rfl,hc,hb,XD,iC⟩:=h;refine aL.KU hz zQ ht (by cases hq:P.info? (P.elem t)<;>simp[hq] at hs⊢) (n _ ?_);have hl:(rows.take i).length=i:=by rw[aB];omega
 refine⟨λr hr=>h1 r (dI hr),by omega,base,cap,by rw[hl],λct=>?_,λAl=>?_,by omega,iC⟩
 ·obtain⟨b,o,rfl,iN⟩:=hc (by rintro rfl;simp at ct);refine⟨b,o,rfl,?_⟩;rw[aL.lM i h1];obtain⟨hx,c,ty,fr,dT,BF⟩:=iN;refine⟨hx,c,ty,fr,dT,λq u hu=>?_⟩;have hq:=(List.getElem?_eq_some_iff.1 hu).1;rw[aB] at hq;rw[List.getElem?_take_of_lt zQ] at hu;exact BF _ _ hu
 ·have:=hb Al;omega
def lI (a:Nat) (s:Nat×Int) (r:eI):Nat×Int:=if px r.lo a then(r.hi,s.2+1)else s
def H4 (l:List eI) (a:Nat):Nat×Int:=l.foldl (lI a) (0,0)
def H5 (l:List eI):Nat->Nat->Int->Int
 |0,_,_=>99
 |n+1,a,u=>if qp a Gs then(if(H4 l a).2=1 then H5 l n (H4 l a).1 (u+1)else 14)else if u=l.length then 0 else 14
def Je:List eI->List eI->Int
 |_,[]=>0
 |b,r::t=>if r.may then(if b.any (λo=>decide (o.id=r.id))then 9 else Je (b++[r]) t)else 1
def Bc (l:List eI):Int:=if l.length=0 then 8 else if 12<l.length then 3 else if Je [] l≠0 then Je [] l else H5 l (l.length+1) 0 0
theorem Gy (a:Nat): ∀(l:List eI) (s:Nat×Int),s.2<=(l.foldl (lI a) s).2/\(l.foldl (lI a) s).2<=s.2+l.length
 |[],s=>by simp
 |r::l,s=>by
  have h:=Gy a l (lI a s r);have h1:s.2<=(lI a s r).2/\(lI a s r).2<=s.2+1:=by unfold lI;split<;>simp<;>omega
  rw[ix,aK];omega
theorem OG (a:Nat): ∀(l:List eI) (s:Nat×Int),(l.foldl (lI a) s).2=s.2->l.foldl (lI a) s=s/\ ∀r∈l,px r.lo a=false
 |[],s,_=>by simp
 |r::l,s,h=>by
  rw[ix] at h;have hle:=Gy a l (lI a s r);by_cases hr:px r.lo a=true
  ·have:lI a s r=(r.hi,s.2+1):=by unfold lI;rw[if_pos hr]
   rw[this] at hle h;simp only at hle;omega
  ·have e:lI a s r=s:=by unfold lI;rw[if_neg hr]
   rw[e] at h;have:=OG a l s h;rw[ix,e];exact⟨this.1,λx hx=>by
    rcases List.mem_cons.1 hx with rfl|hx
    ·simpa using hr
    ·exact this.2 x hx⟩
theorem RY (a:Nat): ∀(l:List eI) (s:Nat×Int),(l.foldl (lI a) s).2=s.2+1-> ∃r∈l,px r.lo a=true/\(l.foldl (lI a) s).1=r.hi
 |[],s,h=>by simp at h;omega
 |r::l,s,h=>by
  rw[ix] at h⊢;by_cases hr:px r.lo a=true
  ·have e:lI a s r=(r.hi,s.2+1):=by unfold lI;rw[if_pos hr]
   rw[e] at h⊢;have:=OG a l (r.hi,s.2+1) h;exact⟨r,by simp,hr,by rw[this.1]⟩
  ·have e:lI a s r=s:=by unfold lI;rw[if_neg hr]
   rw[e] at h⊢;obtain⟨q,hq,h1,h2⟩:=RY a l s h;exact⟨q,bG _ hq,h1,h2⟩
def later (l:List eI) (a:Nat):Nat:=(l.filter λr=>!qp r.lo a).length
theorem filter_lt {α:Type} {p q:α->Bool} : ∀{l:List α},(∀x∈l,q x=true->p x=true)->(∃x∈l,p x=true/\q x=false)->(l.filter q).length<(l.filter p).length
 |[],_,h=>by obtain⟨x,hx,_⟩:=h;cases hx
 |a::l,h,h2=>by
  have hle: ∀{l:List α},(∀x∈l,q x=true->p x=true)->(l.filter q).length<=(l.filter p).length:=λ{l} h=>by
   induction l with
   |nil=>simp
   |cons b l ih=>
    have:=ih λx hx=>h x (bG _ hx);have hb:=h b sQ;by_cases hq:q b=true
    ·simp[eo,hq,hb hq];exact this
    ·by_cases hp:p b=true
     ·simp[eo,hq,hp];omega
     ·simp[eo,hq,hp];exact this
  have hl: ∀x∈l,q x=true->p x=true:=λx hx=>h x (bG _ hx);obtain⟨x,hx,h3,h4⟩:=h2;rcases List.mem_cons.1 hx with rfl|hx
  ·have:=hle hl;simp[eo,h3,h4];omega
  ·have ih:=filter_lt hl ⟨x,hx,h3,h4⟩;have hb:=h a sQ;by_cases hq:q a=true
   ·simp[eo,hq,hb hq];exact ih
   ·by_cases hp:p a=true
    ·simp[eo,hq,hp];omega
    ·simp[eo,hq,hp];exact ih
variable {l : List eI}
theorem ajd {a:Nat} (hm: ∀r∈l,r.may=true) (h:(H4 l a).2=1):later l (H4 l a).1<later l a:=by
 obtain⟨r,hr,h1,h2⟩:=RY a l (0,0) h;have h2:(H4 l a).1=r.hi:=h2;have h3:qp r.lo r.hi=true:=by have:=hm r hr;unfold eI.may at this;simp only[Bool.and_eq_true] at this;exact this.2
 have h4:qp a r.hi=true:=alq (acq h1) h3;rw[h2];refine filter_lt (λx hx hq=>?_) ⟨r,hr,?_,by rw[h3];rfl⟩
 ·cases hc:qp x.lo a with
  |false=>rfl
  |true=>rw[agG hc h4] at hq;cases hq
 ·cases hc:qp r.lo a with
  |false=>rfl
  |true=>rw[abA hc] at h1;cases h1
theorem aai: ∀{l b:List eI},Je b l=0->(∀r∈l,r.may=true)/\(∀r∈l,∀o∈b,o.id≠r.id)/\l.Pairwise λx y=>x.id≠y.id
 |[],b,_=>by simp
 |r::t,b,h=>by
  unfold Je at h;by_cases hm:r.may=true
  ·rw[if_pos hm] at h;by_cases ha:(b.any λo=>decide (o.id=r.id))=true
   ·rw[if_pos ha] at h;omega
   ·rw[if_neg ha] at h;have ih:=aai h;have ha': ∀o∈b,o.id≠r.id:=λo ho e=>ha (List.any_eq_true.2 ⟨o,ho,by simpa using e⟩);refine⟨λx hx=>?_,λx hx o ho=>?_,List.pairwise_cons.2 ⟨λx hx=>ih.2.1 x hx r sQ,ih.2.2⟩⟩
    ·rcases List.mem_cons.1 hx with rfl|hx
     ·exact hm
     ·exact ih.1 x hx
    ·rcases List.mem_cons.1 hx with rfl|hx
     ·exact ha' o ho
     ·exact ih.2.1 x hx o (by simp[ho])
  ·rw[if_neg hm] at h;omega
variable {a : Value}
theorem V3 (ha:Sl w X 4 a (l.map eI.l)):Ct pg 122 #[a] w X nX λv _ _=>v=I (Bc l):=by
 intro w0 hk;replace ha:=ha.mv hk.cr;have kG:=ha.gO;refine Ta.1 λhs=>?_;repeat' first|refine ak ?_;intros|refine cQ ?_ ?_<;>intros|(refine qr ?_;intro wa hk;(first|(unfold Bc;rw[if_pos zQ])|(unfold Bc;rw[if_neg zQ,if_pos zQ])))
 refine gz (λn a b w X=> ∃i:Nat,a=I i/\n=l.length-i/\i<=l.length/\ai (bK w0) w0 X w/\Je [] l=Je (l.take i) (l.drop i)) l.length ⟨0,rfl,rfl,aq _,hs,rfl⟩ ?_;rintro n a b w X ⟨i,rfl,rfl,hi,hs,hw⟩;rcases dA (l) i with⟨cB,x,hx,hd⟩|⟨dB,hd⟩
 ·rw[hd,Je] at hw;by_cases hm:x.may=true
  ·rw[if_pos hm] at hw;repeat' first|refine aJ ?_;intros|(refine kh (vT _) hs ?_ ?_<;>intro _ w X hs)|(exfalso;simp_all;done)
   refine ajc (i:=i) (rows:=l.map eI.l) (ha.since hs) rfl (by rw[ah];omega) kQ kQ λv1 kW=>?_;rw[<-List.map_take] at kW;have CK:(l.take i).length=i:=by rw[aB];omega
   repeat' refine ak ?_;intros
   refine fp (λn a w1 X1=> ∃j:Nat,a=I (j:Nat)/\n=(l.take i).length-j/\j<=(l.take i).length/\ai X w X1 w1/\((l.take i).any λo=>decide (o.id=x.id))=(((l.take i).drop j).any λo=>decide (o.id=x.id))) (l.take i).length ⟨0,rfl,rfl,aq _,ai.fG hs.has,by simp⟩ ?_;rintro n a w1 X1 ⟨j,rfl,rfl,hj,bB,uN⟩;replace kW:=kW.since bB;replace hs:=hs.trans bB;rcases dA (l.take i) j with⟨SA,y,hy,sk⟩|⟨EL,sk⟩
   ·rw[sk,List.any_cons] at uN;by_cases PZ:y.id=x.id
    ·repeat' first|refine aJ ?_;intros|(refine qr ?_;intro wa hk;(unfold Bc;rw[if_neg zQ,if_neg zQ,hw,uN,PZ];simp))
    ·repeat' first|refine aJ ?_;intros|((with_reducible refine eP ((l.take i).length-(j+1)) ?_ ?_);omega;exact⟨j+1,by simp,rfl,by omega,bB,by rw[uN];simp[PZ]⟩)
   ·rw[sk] at uN;simp only[List.any_nil] at uN;rw[if_neg (by rw[uN];simp)] at hw;repeat' first|refine aJ ?_;intros|((with_reducible refine fB ((l).length-(i+1)) ?_ ?_);omega;exact⟨i+1,by simp,rfl,by omega,hs,by rw[hw,cj,hx];rfl⟩)
  ·rw[if_neg hm] at hw;repeat' first|refine aJ ?_;intros|(refine kh (vT _) hs ?_ ?_<;>intro _ w X hs)|(exfalso;simp_all;done)|(refine qr ?_;intro wa hk;(unfold Bc;rw[if_neg zQ,if_neg zQ,hw];rfl))
 ·rw[hd,az dB,Je] at hw;have hC:Bc l=H5 l (l.length+1) 0 0:=by unfold Bc;rw[if_neg zQ,if_neg zQ,if_neg zQ]
  repeat' refine aJ ?_;intros
  refine am6 (λn a b c d e w X=> ∃(u:Int) (gI:Nat),a=I u/\b= .float .f64 gI/\later l gI<n/\0<=u/\u+n<=l.length+1/\ai (bK w0) w0 X w/\Bc l=H5 l n gI u) (l.length+1) ⟨0,0,rfl,rfl,?_,by omega,by omega,hs,hC⟩ ?_
  ·have:later l 0<=l.length:=List.length_filter_le _ _;omega
  rintro n a b c d e w X ⟨u,a0,rfl,rfl,ik,hu0,hu1,hs,vN⟩;obtain⟨k,rfl⟩: ∃j,n=j+1:=⟨n-1,by omega⟩;rw[H5] at vN;have Al:=Gy a0 l (0,0);by_cases CK:qp a0 Gs=true
  ·rw[if_pos CK] at vN;repeat' first|refine ak ?_;intros|refine cQ ?_ ?_<;>intros|(exfalso;simp_all [Gs];done)
   refine AW (λn a b c w X=> ∃i:Nat,a=I i/\b=I ((l.take i).foldl (lI a0) (0,0)).2/\c= .float .f64 ((l.take i).foldl (lI a0) (0,0)).1/\n=l.length-i/\i<=l.length/\ai (bK w0) w0 X w) l.length ⟨0,rfl,rfl,rfl,rfl,aq _,hs⟩ ?_;rintro n a b c w X ⟨i,rfl,rfl,rfl,rfl,hi,hs⟩;have lK:=Gy a0 (l.take i) (0,0);have hli:(l.take i).length=i:=by rw[aB];omega
   rw[hli] at lK;rcases dA (l) i with⟨cB,x,hx,hd⟩|⟨dB,hd⟩
   ·have fP:(l.take (i+1)).foldl (lI a0) (0,0)=lI a0 ((l.take i).foldl (lI a0) (0,0)) x:=by rw[cj,hx,Az];rfl
    generalize (l.take i).foldl (lI a0) (0,0)=s at fP lK⊢;by_cases hf:px x.lo a0=true
    ·rw[show lI a0 s x=(x.hi,s.2+1)by unfold lI;rw[if_pos hf]] at fP;repeat' first|refine aJ ?_;intros|refine cQ ?_ ?_<;>intros|with_reducible apply cD|(exfalso;simp_all;done)|((with_reducible refine zi ((l).length-(i+1)) ?_ ?_);omega;exact⟨i+1,by simp,by rw[fP],by rw[fP],rfl,by omega,hs⟩)
    ·rw[show lI a0 s x=s by unfold lI;rw[if_neg hf]] at fP;repeat' first|refine aJ ?_;intros|refine cQ ?_ ?_<;>intros|with_reducible apply cD|(exfalso;simp_all;done)|((with_reducible refine zi ((l).length-(i+1)) ?_ ?_);omega;exact⟨i+1,by simp,by rw[fP],by rw[fP],rfl,by omega,hs⟩)
   ·rw[az dB];change _/\_<=_ at Al;change Bc l=if(List.foldl (lI a0) (0,0) l).2=1 then H5 l k (List.foldl (lI a0) (0,0) l).1 (u+1)else 14 at vN
    by_cases wJ:(l.foldl (lI a0) (0,0)).2=1
    ·have cB:=ajd ((aai hw).1) (a:=a0) wJ;rw[if_pos wJ] at vN;unfold H4 at cB;repeat' first|refine aJ ?_;intros|(with_reducible refine am7 k ?_ ?_);omega;exact⟨u+1,_,rfl,rfl,by omega,by omega,by omega,hs,vN⟩
    ·rw[if_neg wJ] at vN;repeat' first|refine aJ ?_;intros|(refine qr ?_;intro wa hk;(rw[vN]))
  ·rw[if_neg CK] at vN;repeat' first|refine ak ?_;intros|refine cQ ?_ ?_<;>intros|(exfalso;exact CK aQ)|(refine qr ?_;intro wa hk;(rw[vN];first|(rw[if_pos aQ])|(rw[if_neg aQ])))
variable {kt : TypeId}
theorem PQ (h:P.underlying kt=some (.int .i64)) (e:Bool) (n:Nat) (k:Int) (w:World):(gS e (n+1) kt (I k)).run P w= .ok () w:=by simp[gS,run_underlying h]
theorem alr (h:P.underlying kt=some (.int .i64)):xa P kt (λz:Int=>I z) where
 jk e k w:=PQ h e 9999 k w
 find k l w:=by
  have: ∀(l:List (Go.aL.jr Int)) (i:Nat),kr (.int .i64) (I k) (l.map (lB λz=>I z)) i=some (sX k l i):=by
   intro l
   induction l with
   |nil=>intro i;rfl
   |cons x r ih=>
    intro i;by_cases hk:k=x.1
    ·simp[kr,lB,Instr.sameNow,sX,hk]
    ·have hb:(k==x.1)=false:=by simpa using hk
     simp[kr,lB,Instr.sameNow,sX,hk,hb,ih]
  simp[Instr.findKey,run_underlying h,this]
 same k:=by simp[Instr.sameBits]
def AA:xa pg 3 (λz:Int=>I z):=alr kQ
def Jf:World->XS->Value->eI->Prop:=λ_ _ v x=>v=x.v
def PR:qs Jf:=λ_ _ _ _ _ _ h _=>h
abbrev tr:=List (Int×eI)
structure mc (w:World) (X:XS) (db mb:Nat) (ds:tr):Prop where
 row:aH w X db [.map (some mb)] 224
 map:dK w X nX mb (λz:Int=>I z) Jf ds
variable {w' : World} {A D X' : XS} {db mb : Nat} {ds OA : tr}
def mc.mv (h:mc w X db mb ds) (v:Mv X w X' w'):mc w' X' db mb ds:=⟨h.row.mv v,h.map.mv PR v λ_ h=>h.elim⟩
theorem mc.ne (h:mc w X db mb ds):db≠mb:=λe=>by
 obtain⟨es,c,h1,_⟩:=h.map;have h2:=h1.2.1;rw[<-e,h.row.2] at h2;simp at h2
theorem mc.put (h:mc w D db mb ds) (hX: ∀k,D k->X k) (c:dY (· =mb) X w X' w') (hm:dK w' X' nX mb (λz:Int=>I z) Jf OA):mc w' D db mb OA:=
 ⟨⟨h.row.1,(c.block _ (hX _ h.row.1) h.ne).trans h.row.2⟩,by obtain⟨es,c,h1,h2⟩:=hm;exact⟨es,c,⟨h.map.x.1,h1.2⟩,h2⟩⟩
def iX (ds:tr) (r:eI):tr:=if r.may then(match getM r.id ds with|some o=>if o.iB>=r.iB then ds else cK r.id r ds|none=>cK r.id r ds)else ds
theorem OH (h:mc w D db mb ds) (hD:FX D X w) (ha:Sl w A 4 a (l.map eI.l)) (hA: ∀k,A k->X k/\k≠mb):
  Ct pg 123 #[ptr db 0,a] w X (· =mb) λv _ w'=>(∃n,v=I n)/\mc w' D db mb (l.foldl iX ds):=by
 intro w0 hk;have hF:FX (· =mb) X w:=λk af=>by subst af;exact hD _ h.map.x.1
 have hT:=hF.ft hk;replace h:=h.mv (hD.mv hk);have hD0:=hD.kp hk;have hao:Sl w0 (out (· =mb) w0) 4 a (l.map eI.l):=ha.mv λk af hl=>⟨⟨av hl hk.size,(hA k af).2⟩,hk.block k (hA k af).1⟩;have kG:=hao.gO;have ha:=hao.mv hT.s.mv;refine PA.1 λ_=>?_;have hs:=hT.s;repeat' refine ak ?_;intros
 refine gz (λn a b w X=> ∃(i:Nat) (c:Int),a=I i/\b=I c/\0<=c/\c<=i/\n=l.length-i/\i<=l.length/\Ft w0 (· =mb) w X (· =mb)/\FX D X w/\mc w D db mb ((l.take i).foldl iX ds)) l.length ⟨0,0,rfl,rfl,by omega,by omega,rfl,aq _,hT,hD0,h⟩ ?_;clear hs hT h ha;rintro n _ _ w X ⟨i,c,rfl,rfl,wF,BE,rfl,hi,hT,RZ,h⟩;have ha:=hao.mv hT.s.mv;have bw:=h.row.mono λk af=>(RZ k af).1;have hs:=hT.s;rcases dA (l) i with⟨cB,x,hx,hd⟩|⟨dB,hd⟩
 ·have fP:(l.take (i+1)).foldl iX ds=iX ((l.take i).foldl iX ds) x:=by rw[cj,hx,Az];rfl
  generalize (l.take i).foldl iX ds=s at fP h;have nf: ∀{w':World} {X':XS} (c':Int),0<=c'->c'<=c+1->Ft w0 (· =mb) w' X' (· =mb)->FX D X' w'->mc w' D db mb (iX s x)->
    FO (J2 λn a b w X=> ∃(i:Nat) (c:Int),a=I i/\b=I c/\0<=c/\c<=i/\n=l.length-i/\i<=l.length/\Ft w0 (· =mb) w X (· =mb)/\FX D X w/\mc w D db mb ((l.take i).foldl iX ds)) (l.length-i) (I ((i:Int)+1)) (I c') w' X':=
   λc' q0 q1 q2 q3 q4=>fB (l.length-(i+1)) zQ ⟨i+1,c',by simp,rfl,q0,by omega,rfl,by omega,q2,q3,by rw[fP];exact q4⟩
  have Mw: ∀{w1:World} {X1:XS} {K:Value->World->XS->Prop},Ft w0 (· =mb) w1 X1 (· =mb)->FX D X1 w1->mc w1 D db mb s->iX s x=cK x.id x s->
    (∀w2 X2,Ft w0 (· =mb) w2 X2 (· =mb)->FX D X2 w2->mc w2 D db mb (iX s x)->K undef w2 X2)->
    eU pg (uF (· =mb) w0 λv w'=>(λv _ w'=>(∃n,v=I n)/\mc w' D db mb (l.foldl iX ds)) v w0 w') X1 w1 true (cI 222 (.map (some mb)) (I x.id) x.v) K:=λq1 q2 q3 q4 k=>by
   refine uU (kt:=3) (et:=48) (a:=x) (q3.mv (Mv.sub λk af=>(q2 k af).1)).map PR rfl (λ_ hk=>hk.elim) AA kQ q1.s.has λw2 X2 c2 ri=>?_;rw[q4] at k;exact k w2 X2 (q1.dX c2 (λk af=>af) λk af=>.inl af) (λk af=>⟨c2.sub k (q2 k af).1,c2.has k (c2.sub k (q2 k af).1)⟩) (q3.put (λk af=>(q2 k af).1) c2 ri)
  repeat' first|refine aJ ?_;intros|with_reducible apply cD
  refine Fl (kt:=3) (et:=48) (.agg #[I 0,I 0,.float .f64 0,.float .f64 0]) (h.mv (Mv.sub λk af=>(RZ k af).1)).map AA kQ kQ (λv a hg hv=>?_) (λhg=>?_)
  ·simp only[Jf] at hv;subst hv;repeat' refine ak ?_;intros
   refine rL (vT x) kQ hs.has λw1 X1 ax=>?_;have dW:=hT.since ax;have Vj:FX D X1 w1:=λk af=>⟨ax.sub k (RZ k af).1,av (RZ k af).2 ax.kp.size⟩;have h1:=h.mv (ax.gV λk af=>(RZ k af).1);have DZ:=h1.row.mono λk af=>(Vj k af).1;clear hs bw;have hs:=dW.s;by_cases hm:x.may=true
   ·rw[hm];by_cases dB:a.iB>=x.iB
    ·repeat' first|refine aJ ?_;intros|(exact nf c wF zQ dW Vj (by unfold iX;rw[if_pos hm,hg];simp only;rw[if_pos dB];exact h1))
    ·repeat' refine aJ ?_;intros
     refine Mw dW Vj h1 (by unfold iX;rw[if_pos hm,hg];simp only;rw[if_neg dB]) λw2 X2 cY hD2 h2=>?_;repeat' first|refine ak ?_;intros|(exact nf (c+1) zQ zQ cY hD2 h2)
   ·rw[show x.may=false by simpa using hm];repeat' first|refine ak ?_;intros|(exact nf c wF zQ dW Vj (by unfold iX;rw[if_neg hm];exact h1))
  ·repeat' refine ak ?_;intros
   refine rL (vT x) kQ hs.has λw1 X1 ax=>?_;have dW:=hT.since ax;have Vj:FX D X1 w1:=λk af=>⟨ax.sub k (RZ k af).1,av (RZ k af).2 ax.kp.size⟩;have h1:=h.mv (ax.gV λk af=>(RZ k af).1);have DZ:=h1.row.mono λk af=>(Vj k af).1;clear hs bw;have hs:=dW.s;by_cases hm:x.may=true
   ·rw[hm];repeat' refine ak ?_;intros
    refine Mw dW Vj h1 (by unfold iX;rw[if_pos hm,hg]) λw2 X2 cY hD2 h2=>?_;repeat' first|refine ak ?_;intros|(exact nf (c+1) zQ zQ cY hD2 h2)
   ·rw[show x.may=false by simpa using hm];repeat' first|refine ak ?_;intros|(exact nf c wF zQ dW Vj (by unfold iX;rw[if_neg hm];exact h1))
 ·repeat' refine aJ ?_;intros
  rw[az dB] at h;exact hT.fin λwa aI=>⟨⟨c,rfl⟩,h.mv (aI.jd λk af=>(RZ k af).1)⟩
theorem afK (ha:Sl w X 4 a (l.map eI.l)):
  Ct pg 74 #[a] w X nX λv wa w'=>if Bc l≠0 then v= .tuple #[.pointer none,I (Bc l)] else∃db mb D,v= .tuple #[ptr db 0,I 0]/\(∀k,D k->made wa w' k)/\mc w' D db mb (l.foldl iX []):=by
 intro w0 hk;replace ha:=ha.mv hk.cr;have hF:FX nX X w:=λk af=>af.elim;have hT:=hF.ft hk;have hs:=ai.init w0;refine aeF.1 λ_=>?_;refine dS (V3 ha) kQ hs.has λw1 X1 ax=>?_;replace hT:=hT.since ax;replace hs:=hs.trans ax;replace ha:=ha.since ax;by_cases hc:Bc l≠0
 ·repeat' refine aJ ?_;intros
  exact hT.fin λwa aI=>by simp only[if_pos hc]
 ·repeat' refine aJ ?_;intros
  refine qY (kv:=λk:Int=>I k) Jf nX hT.s.has λmb w2 X2 Z7 xK ri=>?_;have cY:=hT.since xK;clear hs;repeat' refine ak ?_;intros
  refine A6 cY.s.has λdb w3 X3 hdb dp bw=>?_;have dU:=cY.since dp;have qm:=ri.mv PR dp.mv (λ_ h=>h.elim) (A':=nX);have Jn:=ri.x.2;have h3:mc w3 (λk=>k=db\/k=mb) db mb []:=⟨⟨.inl rfl,bw.2⟩,by obtain⟨es,c,h1,h2⟩:=qm;exact⟨es,c,⟨.inr rfl,h1.2⟩,h2⟩⟩;have hz:=ax.kp.size;have hD3:FX (λk=>k=db\/k=mb) X3 w3:=λk af=>by
   rcases af with e|e<;>subst e
   ·exact⟨bw.1,bw.lt⟩
   ·exact⟨qm.x.1,qm.x.2⟩
  have EP:Ft w0 nX w3 X3 (λk=>k=mb):=dU.more λk e=>by subst e;exact .inr ⟨qm.x.1,by omega⟩
  have ha3:Sl w3 X1 4 a (l.map eI.l):=ha.mv λk af _=>⟨af,(xK.trans dp).kp.block k af⟩;refine EP.call (OH (A:=X1) h3 hD3 ha3 λk af=>⟨dp.sub k (xK.sub k af),λe=>by have:=hT.s.has k af;omega⟩) kQ (λ_ h=>h) λv zf w4 X4 hq tq oF fQ c4=>?_;obtain⟨_,h4⟩:=hq;have hz4:=c4.size
  skip
  exact fQ.fin λwa aI=>by
   simp only[if_neg hc];exact⟨db,mb,_,rfl,λk af=>by have:=aI.size;have:=bw.lt;have:=qm.x.2;rcases af with e|e<;>subst e<;>exact⟨by omega,by omega⟩,h4.mv (aI.jd λk af=>c4.sub k (hD3 k af).1)⟩
def eI.Sm (r:eI) (x:Nat):Bool:=(JK x r.lo||px x r.lo)&&qp x r.hi
def zz (ds:tr) (x:Nat):Nat->Option eI
 |0=>none
 |n+1=>match getM ((n+1:Nat):Int) ds with
  |some r=>if eI.Sm r x then some r else zz ds x n
  |none=>zz ds x n
def nr (ds:tr) (k:BA):Option eI:=if iJ k then zz ds (placeOf k) 12 else none
theorem abB {k:BA} (h:mc w X db mb ds) (hk:k.size<=2^62):
  Ct pg 163 #[ptr db 0,.string k] w X nX λv _ _=>v= .tuple #[((nr ds k).getD .zero).v,B (nr ds k).isSome]:=by
 intro w0 ik;replace h:=h.mv ik.cr;have bw:=h.row;refine PC.1 λhs=>?_;by_cases hg:iJ k=true
 ·have hR:nr ds k=zz ds (placeOf k) 12:=by unfold nr;rw[if_pos hg]
  rw[hR];clear hR;generalize arM:zz ds (placeOf k) 12=R12;repeat' first|refine ak ?_;intros|(refine kh (lf _) hs ?_ ?_<;>intro _ w X hs)|(refine ph (I8 _ (by first|assumption|omega)) hs ?_;intro w X hs)|(exfalso;simp_all;done)
  refine gz (λn a b w X=> ∃j:Nat,a=I (j:Nat)/\b=eI.zero.v/\n=j/\j<=12/\ai (bK w0) w0 X w/\R12=zz ds (placeOf k) j) 12 ⟨12,rfl,rfl,rfl,by omega,hs,arM.symm⟩ ?_;clear hs;rintro n _ _ w X ⟨j,rfl,rfl,rfl,hj,hs,hw⟩;cases n with
  |zero=>
   repeat' first|refine aJ ?_;intros|(refine qr ?_;intro wa hk;(rw[hw];rfl))
  |succ j=>
   rw[zz] at hw;repeat' refine aJ ?_;intros
   refine Fl (kt:=3) (et:=48) eI.zero.v (h.mv hs.mv).map AA kQ kQ (λv r hg hv=>?_) (λhg=>?_)
   ·simp only[Jf] at hv;subst hv;rw[hg] at hw;simp only at hw;change R12=if((JK (placeOf k) r.lo||px (placeOf k) r.lo)&&qp (placeOf k) r.hi)=true then some r else zz ds (placeOf k) j at hw
    by_cases gv:((JK (placeOf k) r.lo||px (placeOf k) r.lo)&&qp (placeOf k) r.hi)=true
    ·rw[if_pos gv] at hw;repeat' first|refine ak ?_;intros|with_reducible apply cD|(refine kh (I5 _ _) hs ?_ ?_<;>intro _ w X hs)|(exfalso;simp_all;done)|(refine qr ?_;intro wa hk;(rw[hw];rfl))
    ·rw[if_neg gv] at hw;repeat' first|refine ak ?_;intros|with_reducible apply cD|(refine kh (I5 _ _) hs ?_ ?_<;>intro _ w X hs)|(exfalso;simp_all;done)|(with_reducible refine fB j ?_ ?_);omega;exact⟨j,by congr 1;omega,rfl,rfl,by omega,hs,hw⟩
   ·rw[hg] at hw;repeat' first|refine ak ?_;intros|with_reducible apply cD|(with_reducible refine fB j ?_ ?_);omega;exact⟨j,by congr 1;omega,rfl,rfl,by omega,hs,hw⟩
 ·have hR:nr ds k=none:=by unfold nr;rw[if_neg hg]
  rw[hR];repeat' first|refine ak ?_;intros|(refine kh (lf _) hs ?_ ?_<;>intro _ w X hs)|(refine ph (I8 _ (by first|assumption|omega)) hs ?_;intro w X hs)|(exfalso;simp_all;done)|(refine qr ?_;intro wa hk;rfl)
open Go.Maps Go.Shelf Go.Proofs
abbrev AB:Int->Value:=λz=>I z
theorem aaj {kt:Nat} {es:List (jr Int)} (h:mg w X b AB es c) (hk:P.underlying kt=some (.int .i64)) (hs: ∀x∈es,-(2^63)<=x.1/\x.1<2^63) (hl:es.length<=2^40):
  ∃D0:DataW Unit,w.ownsMap P kt RT b es.length D0/\Maps.size D0=es.length/\(intKeys D0).Perm (es.map λx=>x.1):=by
 have Ho:(2:Nat)^40<=maxLen:=by decide
 have nC: ∀x∈es,keyOf P kt (AB x.1)=some (.int .i64 x.1):=λx hx=>by
  unfold keyOf mapKey;rw[hk];have:=hs x hx;have h1:IntKind.i64.min= -(2^63):=by decide
  simp[AB,Lit.wf,h1];omega
 have jw: ∀x∈es,rS P kt RT (lB AB x)=some (.int .i64 x.1,.lit (.bool true)):=λx hx=>by
  unfold rS lB RT;simp[nC x hx]
 have ai5:(es.map (lB AB)).map (mG P kt RT)=es.map λx=>((.int .i64 x.1:Lit),(.lit (.bool true):DataW Unit)):=by
  rw[bz];apply List.map_congr_left;intro x hx;simp only[Function.comp,mG,jw x hx,Bv]
 refine⟨.map (((es.map (lB AB)).map (mG P kt RT)).foldr DataW.insert []),⟨_,c,h.2.1,⟨?_,⟨?_,?_,?_⟩,?_⟩,by simp,by simp⟩,?_,?_⟩
 ·simpa using ad hl Ho
 ·intro x hx;simp only[cN,List.mem_map] at hx;obtain⟨y,hy,rfl⟩:=hx;exact h.2.2.2.2 y hy
 ·have:=h.2.2.2.1;simpa [bz,jL,lB] using this
 ·have h1:=h.2.2.1;have e:((es.map (lB AB)).toArray.toList.map (·.key))=(es.map (·.1)).map AB:=by simp[bz,jL,lB]
  rw[e];exact List.Pairwise.map AB (λa b wI e=>wI (by cases e;rfl)) h1
 ·intro x hx;simp only[cN,List.mem_map] at hx;obtain⟨y,hy,rfl⟩:=hx;exact⟨_,jw y hy⟩
 ·show ba _=_
  rw[(yf _).length_eq];simp
 ·show(List.map _ _).Perm _
  refine((yf _).map _).trans ?_;rw[ai5,bz];rfl
def pI (ks:List Int):List Int:=ks.mergeSort λx y=>decide (x<=y)
theorem oS (ks:List Int):(pI ks).Perm ks:=List.mergeSort_perm _ _
theorem aak (ks:List Int):(pI ks).Pairwise λx y=>x<=y:=by
 have:=List.pairwise_mergeSort (le:=λx y:Int=>decide (x<=y)) (λa b c h1 h2=>by grind) (λa b=>by grind) ks;exact this.imp λh=>by grind
theorem R0: ∀{l l':List Int},l.Perm l'->l.Pairwise (λa b=>a<=b)->l'.Pairwise (λa b=>a<=b)->l=l'
 |[],l',hp,_,_=>(List.Perm.nil_eq hp)
 |a::l,[],hp,_,_=>absurd hp.length_eq sQ
 |a::l,b::l',hp,h1,h2=>by
  have Ks:=List.pairwise_cons.1 h1;have h2':=List.pairwise_cons.1 h2;have wI:a=b:=by
   have ha:a∈b::l':=hp.mem_iff.1 sQ;have hb:b∈a::l:=hp.mem_iff.2 sQ;rcases List.mem_cons.1 ha with e|ha
   ·exact e
   ·rcases List.mem_cons.1 hb with e|hb
    ·exact e.symm
    ·have:=Ks.1 b hb;have:=h2'.1 a ha;omega
  subst wI;rw[R0 (List.Perm.cons_inv hp) Ks.2 h2'.2]
def aje {ks ks':List Int} (h:ks.Perm ks'):pI ks=pI ks':=R0 (((oS ks).trans h).trans (oS ks').symm) (aak _) (aak _)
def ajf (m:Nat):AnyZI.SortsIn pg Tryz.OE gh m:=
  ⟨λeT off cap ss W hH hblk gd=>callsIn_wide.2 (AnyM.slices_Sort_int Tryz.aj3 eT off cap ss W hH hblk gd),
   λp cap W=>callsIn_wide.2 (AnyM.slices_Sort_int_none Tryz.aj3 p cap W)⟩
theorem agH {g:FuncId} {lb:Array Value} {α:Type} {rd:World->XS->Value->α->Prop} {l:List (Int×α)} (h:dK w X A mb AB rd l) (eg:enters pg g=true)
  (hs: ∀x∈l,-(2^63)<=x.1/\x.1<2^63) (hl:l.length<=2^40)
  (hg: ∀wa,Kp X w wa-> ∀(nn:Nat) (D0:DataW Unit),wa.ownsMap pg 3 RT mb nn D0->SeqGives gh 2 pg g lb encZ (λss=>ss.Perm (intKeys D0)) (Maps.size D0) wa):
  Ct pg 120 #[.func (.func g) #[] lb] w X nX λv wa w'=>Own w' (made wa w') wa.heap.size 3 1 v ((pI (l.map (·.1))).map I1):=by
 intro wa hk;obtain⟨es,c,h1,h2⟩:=h;have Cn:=h2.keys;have hlen:es.length=l.length:=by have:=congrArg ba Cn;simpa using this
 obtain⟨D0,xx,gd,RW⟩:=aaj (P:=pg) (h1.kp hk) (kt:=3) kQ (λx hx=>by
  have:x.1∈l.map (·.1):=by rw[<-Cn];exact List.mem_map.2 ⟨x,hx,rfl⟩
  obtain⟨y,hy,e⟩:=List.mem_map.1 this;rw[<-e];exact hs y hy) zQ
 have Ho:(2:Nat)^40<=maxLen:=by decide
 have hS:=callsIn_wide.1 (AnyZI.sorted_in Tryz.ali gh 5 trivial trivial trivial trivial rfl zQ (ajf _) (λargs w=>oR kQ args w) g lb trivial (λargs w=>oR eg args w) _ _ zQ zQ wa (hg wa hk _ D0 xx));refine hS.mono ?_;rintro e w' ⟨v,ss,rfl,hp,bw,ahO,hb⟩;have hx:Ext wa w':=⟨hb.os,hb.tape,hb.output,hb.size,λk af _=>hb.block k af⟩;refine⟨v,rfl,hx,?_⟩;have e1:ss.mergeSort (λx y=>decide (x<=y))=pI (l.map (·.1)):=by
  refine aje (hp.trans (RW.trans ?_));rw[Cn]
 have e2:((ss.mergeSort (λx y=>decide (x<=y))).map encZ)=((pI (l.map (·.1))).map I1).flatten:=by
  rw[e1];have e3: ∀q:List Int,q.map encZ=(q.map I1).flatten:=λq=>by
   induction q with
   |nil=>rfl
   |cons a q ih=>simp only[bm,cW,<-ih];rfl
  exact e3 _
 have si:ss.length=((pI (l.map (·.1))).map I1).length:=by
  rw[ah,(oS _).length_eq,ah,<-hlen];have:=hp.length_eq;rw[this,RW.length_eq,ah]
 refine⟨λr hr=>by obtain⟨x,_,rfl⟩:=List.mem_map.1 hr;rfl,?_,λq hq=>⟨?_,?_⟩⟩
 ·rw[<-si,<-e2];exact bw
 ·exact(bw.lt _ hq).1
 ·exact(bw.lt _ hq).2
theorem als:Ct pg 164 #[.map (some mb)] w X nX λv wa w'=> ∃bx,v= .func (.func 230) #[] #[ptr bx 0]/\aH w' (made wa w') bx [.map (some mb)] 281:=by
 intro w0 hk;refine tC.1 λhs=>?_;refine tR rfl hs.has λbx w1 X1 gr ax bw=>?_;repeat' refine ak ?_;intros
 exact bS ax λwa aI=>⟨bx,rfl,⟨gr,(bw.kp aI).lt⟩,(bw.kp aI).2⟩
theorem agI {bx:Nat} {α:Type} {rd:World->XS->Value->α->Prop} {l:List (Int×α)} (h:dK w X A mb AB rd l) (hb:aH w X bx [.map (some mb)] 281)
  (hs: ∀x∈l,-(2^63)<=x.1/\x.1<2^63) (hl:l.length<=2^40):
  Ct pg 120 #[.func (.func 230) #[] #[ptr bx 0]] w X nX λv wa w'=>Own w' (made wa w') wa.heap.size 3 1 v ((pI (l.map (·.1))).map I1):=
 agH h kQ hs hl λwa hk nn D0 xx=>
  AnyZI.keys_gives (ρ:=Tryz.Vb) { Tryz.apC with } gh _ trivial rfl zQ bx mb nn D0 wa (hb.kp hk).lt (by have:=(hb.kp hk).2;simp[World.cell?,this]) xx
abbrev GV:=List BA×Option Nat
abbrev GM:=List (Int×GV)
variable {e lo : Nat} {Y : XS}
def xv (h:Own w X lo e k v rows) (hs: ∀g,v.ownBlock=some g->Y g):Own w Y lo e k v rows:=⟨h.1,h.2.1,hs⟩
def Nc (h:Own w X lo e k v rows) (hm: ∀g,v.ownBlock=some g->Y g/\w'.heap[g]? =w.heap[g]?):Own w' Y lo e k v rows:=
 (xv h (Y:=λg=>v.ownBlock=some g) λg hg=>hg).mv λg hg _=>hm g hg
def aal {κ α:Type} [DecidableEq κ] {k:κ} {a:α} {l:List (κ×α)} :(k,a)∈cK k a l:=gP kn
theorem R3 {κ α:Type} [DecidableEq κ] {k:κ} {a:α} : ∀{l:List (κ×α)} {y:κ×α},y∈l->y.1≠k->y∈cK k a l
 |x::l,y,h,hy=>by
  unfold cK;split
  ·rename_i hx;rcases List.mem_cons.1 h with rfl|h
   ·exact absurd hx hy
   ·exact bG _ h
  ·rcases List.mem_cons.1 h with rfl|h
   ·exact List.mem_cons_self
   ·exact bG _ (R3 h hy)
theorem CB {κ α:Type} [DecidableEq κ] {k:κ} {a:α} : ∀l:List (κ×α),(cK k a l).length<=l.length+1
 |[]=>by simp[cK]
 |x::l=>by
  have:=CB (k:=k) (a:=a) l;unfold cK;split<;>simp[*]<;>omega
def Mx (lo:Nat) (w:World) (X:XS) (v:Value) (x:GV):Prop:=Own w X lo 9 1 v (x.1.map S1)/\v.ownBlock=x.2
def zA:qs (Mx lo):=λ_ _ _ _ _ _ h m=>⟨h.1.mv m,h.2⟩
def vP (gm:GM):XS:=λg=> ∃e∈gm,e.2.2=some g
def aam (gm:GM):Prop:= ∀e∈gm,∀e'∈gm,e.1≠e'.1-> ∀g,e.2.2=some g->e'.2.2≠some g
abbrev sI:GV:=([],none)
variable {g : Nat} {gm : GM}
theorem Jg {k:Int} (h:((getM k gm).getD sI).2=some g): ∃x,(k,x)∈gm/\x=(getM k gm).getD sI:=by
 cases hg:getM k gm with
 |none=>rw[hg] at h;cases h
 |some x=>exact⟨x,gP hg,rfl⟩
variable {sz : Nat}
theorem aan {k:Int} (h:dK w X A mb AB (Mx lo) gm) (n: ∀v,Mx lo w A v ((getM k gm).getD sI)->N v):
  aX pg X w (Instr.lookup 281 (.map (some mb)) (I k) false) N:=by
 refine mL (kt:=3) (et:=40) (kv:=AB) (.slice none 0 0) h AA kQ kQ (λv a hg hv=>n v ?_) (λhg=>n (.slice none 0 0) ?_)
 ·rw[hg];exact hv
 ·rw[hg];exact⟨Own.nil _ _ _ _ _,rfl⟩
theorem an7 {k:Int} (h:mc w X db mb ds) (n:N ((getM k ds).getD .zero).v):aX pg X w (Instr.lookup 222 (.map (some mb)) (I k) false) N:=by
 refine mL (kt:=3) (et:=48) (kv:=AB) eI.zero.v h.map AA kQ kQ (λv a hg hv=>?_) (λhg=>?_)
 ·simp only[Jf] at hv;subst hv;rw[hg] at n;exact n
 ·rw[hg] at n;exact n
theorem aam.put {k:Int} {x:GV} (hn:(gm.map (·.1)).Nodup) (h:aam gm) (cB: ∀g,vP gm g->g<sz) (hx: ∀g,x.2=some g->((getM k gm).getD sI).2=some g\/sz<=g):
  aam (cK k x gm)/\ ∀g,vP (cK k x gm) g->vP gm g\/x.2=some g:=by
 have key: ∀e'∈gm,e'.1≠k-> ∀g,x.2=some g->e'.2.2≠some g:=λe' Aj ct g hg rz=>by
  rcases hx g hg with h1|h1
  ·obtain⟨y,hy,e⟩:=Jg h1;exact h (k,y) hy e' Aj (λe=>ct e.symm) g (by rw[e];exact h1) rz
  ·have:=cB g ⟨e',Aj,rz⟩;omega
 refine⟨λe he e' Aj ct g hg=>?_,λg ⟨e,he,hg⟩=>?_⟩
 ·rcases mw hn he with rfl|⟨h1,h2⟩
  ·rcases mw hn Aj with rfl|⟨h3,h4⟩
   ·exact absurd rfl ct
   ·exact key e' h3 h4 g hg
  ·rcases mw hn Aj with rfl|⟨h3,h4⟩
   ·exact λrz=>key e h1 h2 g rz hg
   ·exact h e h1 e' h3 ct g hg
 ·rcases mw hn he with rfl|⟨h1,h2⟩
  ·exact .inr hg
  ·exact .inl ⟨e,h1,hg⟩
def iZ (ds:tr):List (Int×List BA)->List BA->List (Int×List BA)×Int
 |m,[]=>(m,0)
 |m,k::r=>if iJ k then(match nr ds k with
  |none=>(m,8)
  |some g=>iZ ds (if((getM g.id m).getD []).any (λx=>decide (k=x))then m else cK g.id (((getM g.id m).getD [])++[k]) m) r)else(m,10)
structure ot where
 oN:eI
 keys:List BA
def ot.rd (w:World) (X:XS) (l:List Value) (g:ot):Prop:= ∃v,l=g.oN.l++[v]/\Sl w X 1 v (g.keys.map S1)
def ot.mv:Gi ot.rd:=λ⟨v,h,h1⟩ m=>⟨v,h,h1.mv m⟩
def my (ds:tr) (m:List (Int×List BA)):List ot:=(pI (m.map (·.1))).map λid=>⟨(getM id ds).getD .zero,(getM id m).getD []⟩
def zB (gm:GM):List (Int×List BA):=gm.map λe=>(e.1,e.2.1)
theorem R4 (k:Int) (gm:GM):(getM k (zB gm)).getD []=((getM k gm).getD sI).1:=by
 rw[zB,Z4 (λx:GV=>x.1)];cases getM k gm<;>rfl
theorem aeX (k:Int) (x:GV) (gm:GM):zB (cK k x gm)=cK k x.1 (zB gm):=PN (λx:GV=>x.1) k x gm
theorem abC (gm:GM):(zB gm).map (·.1)=gm.map (·.1):=by simp[zB,bz,jL]
theorem He {x:Nat} : ∀{n:Nat} {r:eI},zz ds x n=some r-> ∃j:Nat,1<=j/\j<=n/\getM (j:Int) ds=some r/\eI.Sm r x=true
 |0,r,h=>by cases h
 |n+1,r,h=>by
  rw[zz] at h;cases hg:getM ((n+1:Nat):Int) ds with
  |none=>
   rw[hg] at h;obtain⟨j,h1,h2,h3⟩:=He h;exact⟨j,h1,by omega,h3⟩
  |some q=>
   rw[hg] at h;simp only at h;by_cases hq:eI.Sm q x=true
   ·rw[if_pos hq] at h;cases h;exact⟨n+1,by omega,by omega,hg,hq⟩
   ·rw[if_neg hq] at h;obtain⟨j,h1,h2,h3⟩:=He h;exact⟨j,h1,by omega,h3⟩
variable {r : eI}
theorem NY {k:BA} (h:nr ds k=some r): ∃j:Nat,1<=j/\j<=12/\getM (j:Int) ds=some r/\eI.Sm r (placeOf k)=true:=by
 unfold nr at h;split at h
 ·exact He h
 ·cases h
theorem N1 {keys:List BA} (h:mc w X db mb ds) (hW: ∀(i:Int) (r:eI),getM i ds=some r->r.id=i) (ha:Sl w X 1 a (keys.map S1)) (hl:keys.length<=2^30) (gd: ∀k∈keys,k.size<=2^62):
  Ct pg 111 #[ptr db 0,a] w X nX λv wa w'=>if(iZ ds [] keys).2≠0 then v= .tuple #[.slice none 0 0,I (iZ ds [] keys).2] else∃vl,v= .tuple #[vl,I 0]/\fg w' (made wa w') 5 vl ot.rd (my ds (iZ ds [] keys).1):=by
 intro w0 hk;replace h:=h.mv hk.cr;replace ha:=ha.mv hk.cr;generalize hR:iZ ds [] keys=R;refine Pz.1 λhs=>?_;refine qY (kv:=AB) (Mx w0.heap.size) nX hs.has λgb w1 X1 hgb ax qo=>?_;have KT:dK w1 X1 (vP []) gb AB (Mx w0.heap.size) []:=qo.mv zA (Mv.sub λ_ h=>h) λk h=>h.elim;replace hs:=hs.trans ax;have rK:=ha.mv hs.mv;repeat' refine ak ?_;intros
 refine fp (λn a w X=> ∃(i:Nat) (gm:GM),a=I i/\n=keys.length-i/\i<=keys.length/\ai (bK w0) w0 X w/\dK w X (vP gm) gb AB (Mx w0.heap.size) gm/\(∀g,vP gm g->X g/\w0.heap.size<=g/\g≠gb)/\aam gm/\
  (∀e∈gm,1<=e.1/\e.1<=12/\e.2.1.length<=i)/\gm.length<=i/\R=iZ ds (zB gm) (keys.drop i)) keys.length ⟨0,[],rfl,rfl,aq _,hs,KT,λg ⟨e,he,_⟩=>absurd he sQ,λe he=>absurd he sQ,λe he=>absurd he sQ,au _,hR.symm⟩ ?_
 clear hs ax qo KT rK hR;rintro n _ w X ⟨i,gm,rfl,rfl,hi,hs,hm,H6,aeY,hlen,gX,hw⟩;have rK:=ha.mv hs.mv;rcases dA (keys) i with⟨cB,k,hx,hd⟩|⟨dB,hd⟩
 ·rw[hd,iZ] at hw;repeat' first|refine aJ ?_;intros|with_reducible apply cD
  refine rL (lf k) kQ hs.has λw1' X1' ax=>?_;replace hm:=hm.mv zA ax.mv (ax.gV λg hg=>(H6 g hg).1);replace H6: ∀g,vP gm g->X1' g/\w0.heap.size<=g/\g≠gb:=λg hg=>⟨ax.sub g (H6 g hg).1,(H6 g hg).2⟩;replace hs:=hs.trans ax;clear ax rK;by_cases hg:iJ k=true
  ·rw[if_pos hg] at hw;rw[hg];repeat' refine ak ?_;intros
   refine dS (abB (h.mv hs.mv) (gd k (aA hx))) kQ hs.has λw2 X2 bB=>?_;cases hr:nr ds k with
   |none=>
    rw[hr] at hw;simp only at hw;replace hs:=hs.trans bB;simp only[Option.getD_none,Option.isSome_none];repeat' first|refine ak ?_;intros|(refine qr ?_;intro wa hk;(rw[hw];simp))
   |some r=>
    rw[hr] at hw;simp only at hw;simp only[Bv,Option.isSome_some];obtain⟨j,hj1,hj2,hj3,hj4⟩:=NY hr;have vH:1<=r.id/\r.id<=12:=by have:=hW _ _ hj3;omega
    rw[R4] at hw;have ri:=hm.mv zA bB.mv (bB.gV λg hg=>(H6 g hg).1);have aao: ∀g,vP gm g->X2 g/\w0.heap.size<=g/\g≠gb:=λg hg=>⟨bB.sub g (H6 g hg).1,(H6 g hg).2⟩;clear hm H6;replace hs:=hs.trans bB;clear bB;repeat' refine ak ?_;intros
    refine aan ri λv hv=>?_;have na:(((getM r.id gm).getD sI).1).length<=i:=by
     cases JJ:getM r.id gm with
     |none=>simp
     |some x=>exact(hlen _ (gP JJ)).2.2
    have Mn:=hv.1.mono λg hg=>(aao g hg).1;refine dS (uT Mn.sl) kQ hs.has λw3 X3 dp=>?_;have qm:=ri.mv zA dp.mv (dp.gV λg hg=>(aao g hg).1);have pB: ∀g,vP gm g->X3 g/\w0.heap.size<=g/\g≠gb:=λg hg=>⟨dp.sub g (aao g hg).1,(aao g hg).2⟩;clear ri aao hv Mn;replace hs:=hs.trans dp;clear dp;by_cases hc:(((getM r.id gm).getD sI).1.any λx=>decide (k=x))=true
    ·rw[if_pos hc] at hw;rw[hc];repeat' first|refine ak ?_;intros|((with_reducible refine eP ((keys).length-(i+1)) ?_ ?_);omega;exact⟨i+1,gm,by simp,rfl,by omega,hs,qm,pB,aeY,λe he=>by have:=hlen e he;omega,by omega,hw⟩)
    ·rw[if_neg hc] at hw;rw[Bool.eq_false_iff.2 hc];repeat' refine ak ?_;intros
     refine aan qm λv hv=>?_;have Mn:=hv.1.mono λg hg=>(pB g hg).1;have TB: ∀g,vP gm g->g<w3.heap.size:=λg hg=>hs.has g (pB g hg).1;have aeZ:=hs;have Ko: ∀{w3':World} {X3':XS} {s:Value},ai X3 w3 X3' w3'->Sl w3' X3' 1 s [[.string k]]->
       eV pg (uF nX w0 λv w'=>if R.snd≠0 then v=di #[ti none 0 0,I R.snd] else∃vl,v=di #[vl,I 0]/\fg w' (made w0 w') 5 vl ot.rd (my ds R.fst)) X3' w3' true (gu 40 9 1 16 40 v s) λx48 arN arO=>
        eU pg (uF nX w0 λv w'=>if R.snd≠0 then v=di #[ti none 0 0,I R.snd] else∃vl,v=di #[vl,I 0]/\fg w' (made w0 w') 5 vl ot.rd (my ds R.fst)) arO arN true (cI 281 (.map (some gb)) (I r.id) x48) λx an8 an9=>
         aX pg an9 an8 (binOp .add 3 (I i) (I 1)) λx49=>FN (J1 λn a w X=> ∃(i:Nat) (gm:GM),a=I i/\n=keys.length-i/\i<=keys.length/\ai (bK w0) w0 X w/\dK w X (vP gm) gb AB (Mx w0.heap.size) gm/\(∀g,vP gm g->X g/\w0.heap.size<=g/\g≠gb)/\aam gm/\
          (∀e∈gm,1<=e.1/\e.1<=12/\e.2.1.length<=i)/\gm.length<=i/\R=iZ ds (zB gm) (keys.drop i)) (keys.length-i) x49 an8 an9:=λ{w3'} {X3'} {s} hsx oA=>by
      have arP:=qm.mv zA hsx.mv (hsx.gV λg hg=>(pB g hg).1);have Hr:Mx w0.heap.size w3' (vP gm) v ((getM r.id gm).getD sI):=zA _ _ _ _ _ _ hv (hsx.gV λg hg=>(pB g hg).1);have apG: ∀g,vP gm g->X3' g/\w0.heap.size<=g/\g≠gb:=λg hg=>⟨hsx.sub g (pB g hg).1,(pB g hg).2⟩;have apH: ∀g,vP gm g->g<w3'.heap.size:=λg hg=>av (TB g hg) hsx.kp.size;replace Mn:=Mn.since hsx;have aj5:=hs.trans hsx;clear qm hv pB TB hs;have qm:=arP;have hv:=Hr;have pB:=apG;have TB:=apH;have hs:=aj5;refine qj (bytes:=16) (X0:=bK w0) Mn hs (λ_ h=>h) kQ oA (by simp[aL.one]) (by simp only[ah,cd];omega) (by simp only[ah,cd];omega) λv4 w4 X4 fX FY EO arQ=>?_;have hx4: ∀g,v4.ownBlock=some g->((getM r.id gm).getD sI).2=some g\/w3'.heap.size<=g:=λg hg=>by
       rcases arQ with e|⟨g',e,dB⟩
       ·left;rw[<-hv.2,<-e,hg]
       ·right;rw[e] at hg;cases hg;exact dB
      have Eo:=aeY.put (k:=r.id) (x:=((((getM r.id gm).getD sI).1++[k]),v4.ownBlock)) qm.nodup TB hx4;have hblk: ∀g,eT v g->vP gm g:=λg hg=>by
       have hg:v.ownBlock=some g:=hg;rw[hv.2] at hg;obtain⟨y,hy,e⟩:=Jg hg;exact⟨_,hy,by rw[e];exact hg⟩
      have hva:Mx w0.heap.size w4 (λg=>v4.ownBlock=some g) v4 ((((getM r.id gm).getD sI).1++[k]),v4.ownBlock):=⟨Go.Proofs.YtgfijddlkhkopaaGreat.xv (by simpa using FY) λg hg=>hg,rfl⟩;have Ho:aew w4 X4 (vP (cK r.id ((((getM r.id gm).getD sI).1++[k]),v4.ownBlock) gm)) gb AB (Mx w0.heap.size) r.id gm:=dK.toX qm (λg hg _=>by
        have hg:g=gb:=hg;subst hg;exact⟨EO.sub _ qm.x.1,EO.block _ qm.x.1 λh=>(pB _ (hblk _ h)).2.2 rfl⟩) λy u hy ct jw=>⟨Nc jw.1 λg hg=>⟨⟨y,R3 hy ct,jw.2.symm.trans hg⟩,EO.block g (pB g ⟨y,hy,jw.2.symm.trans hg⟩).1 λh=>by
       have h:v.ownBlock=some g:=h;rw[hv.2] at h;obtain⟨q,hq,e⟩:=Jg h;exact aeY _ hq y hy (λe'=>ct e'.symm) g (by rw[e];exact h) (jw.2.symm.trans hg)⟩,jw.2⟩
      have aoa:Mx w0.heap.size w4 (vP (cK r.id ((((getM r.id gm).getD sI).1++[k]),v4.ownBlock) gm)) v4 ((((getM r.id gm).getD sI).1++[k]),v4.ownBlock):=⟨hva.1.mono λg hg=>⟨_,aal,hg⟩,rfl⟩;have ae0: ∀g,vP (cK r.id ((((getM r.id gm).getD sI).1++[k]),v4.ownBlock) gm) g->X4 g/\w0.heap.size<=g/\g≠gb:=λg hg=>by
       rcases Eo.2 g hg with h1|h1
       ·exact⟨EO.sub g (pB g h1).1,(pB g h1).2⟩
       ·have h1:v4.ownBlock=some g:=h1;refine⟨FY.2.2 g h1,(FY.ge h1).1,λe=>?_⟩;rcases hx4 g h1 with h2|h2
        ·obtain⟨y,hy,e'⟩:=Jg h2;exact(pB g ⟨_,hy,by rw[e'];exact h2⟩).2.2 e
        ·have:=qm.x.2;omega
      refine agd (k:=r.id) (kv:=AB) (kt:=3) (et:=40) Ho zA aoa (λg hg=>⟨(ae0 g hg).1,(ae0 g hg).2.2⟩) AA kQ fX.has λw5 X5 EG xA=>?_;have sS:ai (bK w0) w0 X5 w5:=fX.dX EG λg hg e=>by have:g<w0.heap.size:=hg;omega
      have arR: ∀g,vP (cK r.id ((((getM r.id gm).getD sI).1++[k]),v4.ownBlock) gm) g->X5 g/\w0.heap.size<=g/\g≠gb:=λg hg=>⟨EG.sub g (ae0 g hg).1,(ae0 g hg).2⟩;have apI: ∀e∈cK r.id ((((getM r.id gm).getD sI).1++[k]),v4.ownBlock) gm,1<=e.1/\e.1<=12/\e.2.1.length<=i+1:=λe he=>by
       rcases mw qm.nodup he with rfl|⟨h1,_⟩
       ·exact⟨vH.1,vH.2,by simp only[aa,cd];omega⟩
       ·have:=hlen e h1;omega
      have ats:=CB (k:=r.id) (a:=((((getM r.id gm).getD sI).1++[k]),v4.ownBlock)) gm;have hw5:R=iZ ds (zB (cK r.id ((((getM r.id gm).getD sI).1++[k]),v4.ownBlock) gm)) (keys.drop (i+1)):=by rw[aeX];exact hw
      clear hs aeZ aj5 hv Mn hva aoa Ho qm pB TB FY fX;repeat' first|refine ak ?_;intros|((with_reducible refine eP ((keys).length-(i+1)) ?_ ?_);omega;exact⟨i+1,_,by simp,rfl,by omega,sS,xA,arR,Eo.1,apI,by omega,hw5⟩)
     clear qm pB TB aeZ;repeat' first|(exact Ko (ax.less λ_ h=>h) ho.sl)|(with_reducible apply Xk);(case hX=>exact hs.has);(case he=>kernel_rfl);(case ho=>first|rfl|assumption);(case hk=>rfl);intro acc w X ax ho|(refine And.intro ?_ ?_)
  ·rw[if_neg hg] at hw;rw[show iJ k=false by simpa using hg];repeat' first|refine ak ?_;intros|(refine qr ?_;intro wa hk;(rw[hw];simp))
 ·rw[hd,iZ] at hw;rw[hw];repeat' refine aJ ?_;intros
  refine cu als kQ hs.has ?_;rintro _ wa w2 X2 ⟨bx,rfl,hb⟩ hle gv bB;have ri:=hm.mv zA bB.mv (bB.gV λg hg=>(H6 g hg).1);have Mt:=hs.trans bB;refine cu (agI ri (hb.mono gv) (λe he=>by have:=hlen e he;omega) (by have:ba gm<=i:=gX;omega)) kQ Mt.has ?_;rintro vs wb w3 X3 ho qB mz dp;have qm:=ri.mv zA dp.mv (dp.gV λg hg=>bB.sub g (H6 g hg).1);have pB: ∀g,vP gm g->X3 g/\w0.heap.size<=g:=λg hg=>⟨dp.sub g (bB.sub g (H6 g hg).1),(H6 g hg).2.1⟩;have Ou:=Mt.trans dp;have wO:Own w3 X3 w0.heap.size 3 1 vs ((pI (gm.map (·.1))).map I1):=ho.up mz (by have:=Mt.kp.size;omega);have XQ:(pI (gm.map (·.1))).length=gm.length:=by rw[(oS _).length_eq,ah]
  rw[show my ds (zB gm,(0:Int)).1=(pI (gm.map (·.1))).map λid=>(⟨(getM id ds).getD .zero,((getM id gm).getD sI).1⟩:ot)by simp only[my,abC,R4]];generalize pI (gm.map (·.1))=ids at wO XQ⊢;clear hs bB dp Mt hm ri ho hb H6 rK;have hs:=Ou;have oA:=wO.sl;have arS:ba gm<=i:=gX;repeat' refine ak ?_;intros
  have hlN:ids.length<=2^30:=by omega
  clear dB hd hw hlen gX aeY hi arS;refine gz (λn a b w X=> ∃(j:Nat) (rows:List (List Value)),a=I j/\n=ids.length-j/\j<=ids.length/\ai (bK w0) w0 X w/\Own w X w0.heap.size 140 5 b rows/\rows.length=j/\(∀g,X3 g->X g/\w.heap[g]? =w3.heap[g]?)/\(∀g,b.ownBlock=some g-> ¬X3 g)/\
   ∀(q:Nat) (r:List Value),rows[q]? =some r-> ∃id v,ids[q]? =some id/\r=((getM id ds).getD .zero).l++[v]/\Sl w (vP gm) 1 v (((getM id gm).getD sI).1.map S1)) ids.length
   ⟨0,[],rfl,rfl,aq _,hs,Own.nil _ _ _ _ _,rfl,λg hg=>⟨hg,rfl⟩,nofun,λq r hr=>?_⟩ ?_
  ·cases hr
  clear hs;rintro n _ b w X ⟨j,rows,rfl,rfl,hj,hs,yE,qh,My,lJ,Cu⟩;have aob: ∀{Y:XS},(∀g,Y g->X3 g)->Mv Y w3 X w:=λhY g hg _=>My g (hY g hg);have B1:=wO.sl.mv (aob λg hg=>hg);have DZ:=h.row.mv hs.mv;rcases dA ids j with⟨cB,id,hx,hd⟩|⟨dB,hd⟩
  ·repeat' refine aJ ?_;intros
   refine an7 (h.mv hs.mv) ?_;refine aan (qm.mv zA (aob λg hg=>hg) λg hg _=>⟨hg,(My g (pB g hg).1).2⟩) λv hv=>?_;obtain⟨vb,vn,vc,rfl⟩:=hv.1.sl.form;have ov:aL.one (.slice vb vn vc)=true:=rfl;repeat' first|refine ak ?_;intros|(with_reducible apply Qq);(case hX=>exact hs.has);(case he=>kernel_rfl);(case hk=>rfl);intro acc w X ax ho;obtain⟨_,_,_,rfl⟩:=ho.sl.form;replace hs:=hs.trans ax
   refine qj (bytes:=56) (X0:=bK w0) (yE.since ax) hs (λ_ h=>h) kQ ho.sl (λr hr u hu=>?_) (by simp only[cd];omega) (by simp only[cd];omega) λv5 w5 X5 sS tY EG vY=>?_
   ·rw[aw] at hr;subst hr;simp only[List.mem_cons,dH,or_false] at hu;rcases hu with rfl|rfl|rfl|rfl|rfl<;>first|rfl|exact ov
   have ae1: ∀g,X3 g->X5 g/\w5.heap[g]? =w3.heap[g]? :=λg hg=>⟨EG.sub g (ax.sub g (My g hg).1),(EG.block g (ax.sub g (My g hg).1) λe=>lJ g e hg).trans ((ax.kp.block g (My g hg).1).trans (My g hg).2)⟩;have arT: ∀g,v5.ownBlock=some g-> ¬X3 g:=λg hg hx3=>by
    rcases vY with e|⟨g',e,dB⟩
    ·exact lJ g (e▸hg) hx3
    ·rw[e] at hg;cases hg;have:=ax.has g (ax.sub g (My g hx3).1);omega
   have CP: ∀(q:Nat) (r:List Value),(rows++[((getM id ds).getD .zero).l++[.slice vb vn vc]])[q]? =some r-> ∃id v,ids[q]? =some id/\r=((getM id ds).getD .zero).l++[v]/\Sl w5 (vP gm) 1 v (((getM id gm).getD sI).1.map S1):=λq r hr=>by
    have xA: ∀{u:Value} {rs:List (List Value)},Sl w3 (vP gm) 1 u rs->Sl w5 (vP gm) 1 u rs:=λh=>h.mv λg hg _=>⟨hg,(ae1 g (pB g hg).1).2⟩;rcases Nat.lt_trichotomy q rows.length with hq|hq|hq
    ·rw[List.getElem?_append_left hq] at hr;obtain⟨id',v',e1,e2,e3⟩:=Cu q r hr;exact⟨id',v',e1,e2,e3.mv λg hg _=>⟨hg,(ae1 g (pB g hg).1).2.trans (My g (pB g hg).1).2.symm⟩⟩
    ·subst hq;rw[cT (au _)] at hr;simp only[Nat.sub_self,List.getElem?_cons_zero,aj] at hr;exact⟨id,_,by rw[qh];exact hx,hr.symm,hv.1.sl.mv λg hg _=>⟨hg,(ae1 g (pB g hg).1).2.trans (My g (pB g hg).1).2.symm⟩⟩
    ·rw[List.getElem?_eq_none oQ] at hr;cases hr
   replace hs:=sS;repeat' first|refine ak ?_;intros|((with_reducible refine fB (ids.length-(j+1)) ?_ ?_);omega;exact⟨j+1,_,by simp,rfl,by omega,sS,tY,by simp;omega,ae1,arT,CP⟩)
  ·repeat' refine aJ ?_;intros
   refine bS hs λFZ aI=>?_;simp only[ne_eq,not_true_eq_false,if_false];refine⟨b,rfl,rows,(yE.kp aI).tight.sl,by rw[ah];omega,λq r g hr hg=>?_⟩;obtain⟨id,v,e1,e2,e3⟩:=Cu q r hr;rw[List.getElem?_map,e1] at hg;cases hg;exact⟨v,e2,e3.mv λg hg _=>⟨⟨(pB g hg).2,av (hs.has g (My g (pB g hg).1).1) aI.size⟩,aI.block g (My g (pB g hg).1).1⟩⟩
theorem alu {t:Nat} (h:Own w Y lo e k v rows) (hz:z=i) (hi:i<=rows.length) (ht:pg.underlying t=some (.slice (pg.elem t))) (hs:((pg.info? (pg.elem t)).map (·.size)).isSome=true)
  (n: ∀v',Own w Y lo e k v' (rows.take i)->N v'):aX pg X w (Instr.sliceAt t v none (some (.int .i64 z)) none) N:=by
 rcases h.row with⟨rfl,rfl⟩|⟨g,cap,cs,rfl,gA,bw,pL,iC,pG,uG⟩
 ·have h0:i=0:=by simpa using hi
  subst h0;exact KU hz (au _) ht hs (n _ (Own.nil _ _ _ _ _))
 ·have hr: ∀r∈rows,r.length=k:=h.1;refine KU hz zQ ht hs (n _ (Own.Hy (n:=i) bw gA (λr jS=>hr r (dI jS)) (by rw[aB];omega) zQ iC pG ?_));have h1:=congrArg (List.take (i*k)) uG;rw[List.take_take,Nat.min_eq_left (Nat.mul_le_mul_right k hi)] at h1;rw[h1];have KW:rows.flatten=(rows.take i).flatten++(rows.drop i).flatten:=by rw[<-dO,fq]
  have hl:((rows.take i).flatten).length=i*k:=by rw[lG (k:=k) λr jS=>hr r (dI jS),aB,Nat.min_eq_left hi]
  rw[KW,List.take_append_of_le_length zQ,az zQ]
theorem acr (h:Own w X lo e k v rows) (hg:v.ownBlock=some g): ∃cs:List Value,w.heap[g]? =some (.cells cs.toArray e (0,0)):=by
 rcases h.row with⟨rfl,_⟩|⟨b,cap,cs,rfl,_,hr,_⟩
 ·cases hg
 ·simp only[Value.ownBlock,aj] at hg;subst hg;exact⟨cs,hr.2⟩
theorem agJ {κ α:Type} [DecidableEq κ] {kv:κ->Value} {rd:World->XS->Value->α->Prop} {l:List (κ×α)} (h:Own w X lo e k v rows) (hm:dK w Y A b kv rd l):v.ownBlock≠some b:=λhg=>by
 obtain⟨cs,h1⟩:=acr h hg;obtain⟨es,c,h2,_⟩:=hm;rw[h2.2.1] at h1;cases h1
variable {cs : List Value}
theorem Ge {e':Nat} (h:Own w X lo e k v rows) (hr:aH w Y g cs e') (he:decide (e≠e')=true):v.ownBlock≠some g:=λhg=>by
 obtain⟨c,h1⟩:=acr h hg;rw[hr.2] at h1;simp only[aj,Obj.cells.injEq] at h1;exact of_decide_eq_true he h1.2.1.symm
def mW:World->XS->Value->gL->Prop:=λ_ _ v x=>v=x.v
def kC:qs mW:=λ_ _ _ _ _ _ h _=>h
abbrev runT:Nat:=295
abbrev aoc:Nat:=97
structure iq (w:World) (N:XS) (rb sb wb:Nat) (xh:Value) (s:List gL) (wr:List (BA×gL)):Prop where
 row:aH w N rb [xh,.map (some sb),.map (some wb)] runT
 own:Own w N 0 aoc 3 xh (s.reverse.map gL.l)
 map:dK w N nX wb Value.string mW wr
variable {sb wb : Nat}
section
variable {N N' G : XS} {rb : Nat} {xh nY : Value} {s s' : List gL} {wr oE : List (BA × gL)}
def iq.mv (h:iq w N rb sb wb xh s wr) (v:Mv N w N' w'):iq w' N' rb sb wb xh s wr:=⟨h.row.mv v,h.own.mv v,h.map.mv kC v λ_ h=>h.elim⟩
theorem iq.ne (h:iq w N rb sb wb xh s wr):wb≠rb:=h.map.eH h.row
def iq.ns (h:iq w N rb sb wb xh s wr):xh.ownBlock≠some rb/\xh.ownBlock≠some wb:=⟨Ge h.own h.row kQ,agJ h.own h.map⟩
theorem lv {κ α:Type} [DecidableEq κ] {kv:κ->Value} {rd:World->XS->Value->α->Prop} {l:List (κ×α)} (h:dK w X A b kv rd l) (hb:Y b):dK w Y A b kv rd l:=by
 obtain⟨es,c,h1,h2⟩:=h;exact⟨es,c,⟨hb,h1.2⟩,h2⟩
theorem Mz {v:gL} (h:iq w N rb sb wb xh (v::s) wr) (hN:FX N X w):Ct pg 236 #[ptr rb 0] w X N λx wa w'=>x=v.v/\ ∃nY,iq w' N rb sb wb nY s wr:=by
 intro w0 hk;have hT:=hN.ft hk;replace h:=h.mv (hN.mv hk);have JQ:=hN.kp hk;have bw:=h.row.mono λk af=>(JQ k af).1;have oA:=(h.own.mono λk af=>(JQ k af).1).sl;rw[uA] at oA;have hv:(s.reverse++[v])[s.reverse.length]? =some v:=by rw[cT (au _)];simp
 have hlen:=oA.gO;simp only[aa,sH,cd] at hlen;have xt:(s.reverse++[v]).length=s.length+1:=by simp
 have hl3:s.reverse.length=s.length:=by simp
 obtain⟨q1,q2,q3,rfl⟩:=oA.form;refine RI.1 λ_=>?_;repeat' refine ak ?_;intros
 have ho:=h.own;rw[uA] at ho;refine alu (i:=s.length) ho zQ (by rw[ah];omega) kQ kQ λv2 kq=>?_;rw[<-List.map_take,ig hl3] at kq;obtain⟨t1,t2,t3,rfl⟩:=kq.sl.form;have ov2:aL.one (.slice t1 t2 t3)=true:=rfl;repeat' refine ak ?_;intros
 refine pM (o:=0) bw zQ kQ sQ rfl hT.s.has λw1 X1 c1 arU=>?_;have dW:=hT.dX (F':=N) c1 (λk af=>by subst af;exact h.row.1) λk af=>.inl af;have ct:=Ge kq h.row kQ;have h1:iq w1 N rb sb wb (.slice t1 t2 t3) s wr:=⟨⟨h.row.1,arU.2⟩,Nc kq λg hg=>⟨kq.2.2 g hg,c1.block g (JQ g (kq.2.2 g hg)).1 λe=>ct (by rw[<-e];exact hg)⟩,
  (lv h.map (Y:=(· =wb)) rfl).mv kC (λg hg _=>by subst hg;exact⟨h.map.x.1,c1.block _ (JQ _ h.map.x.1).1 h.ne⟩) λ_ h=>h.elim⟩
 repeat' refine ak ?_;intros
 exact dW.fin λwa aI=>⟨rfl,_,h1.mv (aI.jd dW.bA)⟩
theorem Jh {v:gL} (h:iq w N rb sb wb xh s wr) (hN:FX N X w) (hl:s.length<=2^30):Ct pg 234 #[ptr rb 0,v.v] w X N λ_ wa w'=> ∃N' nY,(∀k,N' k->N k\/made wa w' k)/\iq w' N' rb sb wb nY (v::s) wr:=by
 intro w0 hk;have hT:=hN.ft hk;replace h:=h.mv (hN.mv hk);have JQ:=hN.kp hk;have bw:=h.row.mono λk af=>(JQ k af).1;have hs:=ai.init w0;refine PD.1 λ_=>?_;repeat' first|refine ak ?_;intros|(with_reducible apply Qq);(case hX=>exact hs.has);(case he=>kernel_rfl);(case hk=>rfl);intro acc w X ax ho;obtain⟨_,_,_,rfl⟩:=ho.sl.form;replace hs:=hs.trans ax
 have dW:=hT.since ax;have arX:=ax.gV λk af=>(JQ k af).1;have h1:=h.mv arX;refine HI (bytes:=32) (h1.own.mono λk af=>ax.sub k (JQ k af).1) ax.has (aq _) kQ ho.sl (λr hr u hu=>?_) (by simp only[cd,ah,sH];omega) (by simp only[cd,ah,sH];omega) λv5 w5 X5 EG tY vY=>?_
 ·rw[aw] at hr;subst hr;simp only[List.mem_cons,dH,or_false] at hu;rcases hu with rfl|rfl|rfl<;>rfl
 obtain⟨t1,t2,t3,rfl⟩:=tY.sl.form;have XK:=h1.ns;have ae2:aH w5 X5 rb [xh,.map (some sb),.map (some wb)] runT:=⟨EG.sub _ (ax.sub _ bw.1),(EG.block rb (ax.sub _ bw.1) λe=>XK.1 e).trans h1.row.2⟩;have aod: ∀k,k=wb->X k:=λk e=>by subst e;exact ax.sub _ (JQ _ h.map.x.1).1
 have apJ:dK w5 (· =wb) nX wb Value.string mW wr:=(lv h1.map (Y:=(· =wb)) rfl).mv kC (λg hg _=>⟨hg,EG.block g (aod g hg) λe=>by subst hg;exact XK.2 e⟩) λ_ h=>h.elim;have iL:=dW.dX (F':=λk=>N k\/(ti t1 t2 t3).ownBlock=some k) EG (λk af=>h1.own.2.2 k af) λk af=>by
  rcases af with af|af
  ·exact .inl af
  ·rcases vY with e|⟨g,e,dB⟩
   ·exact .inl (h1.own.2.2 k (by rw[<-e];exact af))
   ·rw[e] at af;cases af;exact .inr ⟨tY.2.2 _ e,dB⟩
 clear hs ax ho;repeat' refine ak ?_;intros
 refine pM (o:=0) ae2 zQ kQ sQ rfl iL.s.has λw6 X6 c6 A4=>?_;have arY:=Ge tY ae2 kQ;have kf:=iL.dX (F':=λk=>N k\/(ti t1 t2 t3).ownBlock=some k) c6 (λk af=>.inl (by subst af;exact h.row.1)) λk af=>.inl af;have arZ:Own w5 X5 0 aoc 3 (.slice t1 t2 t3) ((v::s).reverse.map gL.l):=by rw[uA,aD];exact tY
 have h6:iq w6 (λk=>N k\/(ti t1 t2 t3).ownBlock=some k) rb sb wb (.slice t1 t2 t3) (v::s) wr:=⟨⟨.inl h.row.1,A4.2⟩,Nc arZ λg hg=>⟨.inr hg,c6.block g (tY.2.2 g hg) λe=>arY (by rw[<-e];exact hg)⟩,
  (lv apJ (Y:=(· =wb)) rfl).mv kC (λg hg _=>by subst hg;exact⟨.inl h.map.x.1,c6.block _ (EG.sub _ (aod _ rfl)) h1.ne⟩) λ_ h=>h.elim⟩
 skip
 exact kf.fin λwa aI=>⟨_,_,kf.ju aI λ_ h=>h,h6.mv (aI.jd kf.bA)⟩
def yZ (c:Int) (a b:gL):Except Int (List gL):=
 if c=11 then .ok [aaf (decide (Tz a b<0))] else if c=12 then .ok [aaf (decide (Tz a b=0))] else if c=15 then .ok [a,b]
 else if a.kind=2\/b.kind=2 then .error 23 else .ok [aae (TA c a.num b.num)]
theorem agK {c:Int} {a b:gL} (h:iq w N rb sb wb xh (b::a::s) wr) (hN:FX N X w) (hl:s.length<=2^20):
  EU pg 238 #[ptr rb 0,I c] w X N (λ_ wa w'=> ∃l N' nY,yZ c a b= .ok l/\(∀k,N' k->N k\/made wa w' k)/\iq w' N' rb sb wb nY (l++s) wr) (λch _ _=> ∃e,yZ c a b= .error e/\ch=vE e):=by
 intro w0 hk;have hT:=hN.ft hk;replace h:=h.mv (hN.mv hk);refine RJ.1 λ_=>?_;refine hT.call (Mz h (hN.kp hk)) kQ (λ_ h=>h) λv DE w1 X1 hq pU nq dW c1=>?_;obtain⟨rfl,ajg,h1⟩:=hq;have hN1:FX N X1 w1:=λk af=>⟨dW.bA k (.inl af),c1.has k (dW.bA k (.inl af))⟩;replace dW:=dW.less (F':=N) λk af=>.inl af;have hs:=ai.fG c1.has;repeat' refine ak ?_;intros
 refine dW.call (Mz h1 hN1) kQ (λ_ h=>h) λv xu w2 X2 hq lu ka cY c2=>?_;obtain⟨rfl,aoe,h2⟩:=hq;have Qx:FX N X2 w2:=λk af=>⟨cY.bA k (.inl af),c2.has k (cY.bA k (.inl af))⟩;replace cY:=cY.less (F':=N) λk af=>.inl af;clear hs h1 h;have hs:=ai.fG c2.has;have Ed: ∀{w3:World} {X3:XS} {N3:XS} {s3:List gL} {v:gL} {Af:Value} {K:Value->World->XS->Prop},Ft w0 N w3 X3 N3->iq w3 N3 rb sb wb Af s3 wr->s3.length<=2^30->
   (∀x w4 X4 N4 Hf,Ft w0 N w4 X4 N4->iq w4 N4 rb sb wb Hf (v::s3) wr->K x w4 X4)->eC pg (EV N w0 (λ_ w'=> ∃l N' nY,yZ c a b= .ok l/\(∀k,N' k->N k\/made w0 w' k)/\iq w' N' rb sb wb nY (l++s) wr) (λch _=> ∃e,yZ c a b= .error e/\ch=vE e)) X3 w3 true 234 #[ptr rb 0,v.v] K:=λq1 q2 q3 k=>by
  refine q1.call (Jh q2 (λk af=>⟨q1.bA k af,q1.s.has k (q1.bA k af)⟩) q3) kQ (λ_ h=>h) λv zf w4 X4 hq tq oF fQ c4=>?_;obtain⟨N4,Hf,UR,h4⟩:=hq;exact k _ _ _ _ _ (fQ.less UR) h4
 have tQ: ∀{w3:World} {X3:XS} {N3:XS} {l:List gL} {Af:Value} {x:Value},Ft w0 N w3 X3 N3->iq w3 N3 rb sb wb Af (l++s) wr->yZ c a b= .ok l->
   fin (EV N w0 (λ_ w'=> ∃l N' nY,yZ c a b= .ok l/\(∀k,N' k->N k\/made w0 w' k)/\iq w' N' rb sb wb nY (l++s) wr) (λch _=> ∃e,yZ c a b= .error e/\ch=vE e)) X3 w3 x:=λq1 q2 q3=>
  q1.xN λwa aI=>⟨_,_,_,q3,q1.ju aI λ_ h=>h,q2.mv (aI.jd q1.bA)⟩
 by_cases e1:c=11
 ·repeat' first|refine aJ ?_;intros|with_reducible apply cD
  refine rL (Gx a b) kQ hs.has λw3 X3 dp=>?_;have dU:=cY.since dp;have h3:=h2.mv (dp.gV λk af=>(Qx k af).1);replace hs:=hs.trans dp;by_cases hq:Tz a b<0;all_goals
   repeat' refine aJ ?_;intros
   refine rL (Mu _) kQ hs.has λw4 X4 fX=>?_;have fQ:=dU.since fX;have h4:=h3.mv (fX.gV λk af=>dp.sub k (Qx k af).1);refine Ed fQ h4 zQ λx w5 X5 N5 ajh iL h5=>?_;have hz:=iL.s;clear hs;have hs:=ai.fG iL.s.has;repeat' first|(exact tQ (l:=[_]) iL h5 (by unfold yZ;simp[hq, *]))
 by_cases e2:c=12
 ·repeat' first|refine aJ ?_;intros|with_reducible apply cD
  refine rL (Gx a b) kQ hs.has λw3 X3 dp=>?_;have dU:=cY.since dp;have h3:=h2.mv (dp.gV λk af=>(Qx k af).1);replace hs:=hs.trans dp;by_cases hq:Tz a b=0;all_goals
   repeat' refine aJ ?_;intros
   refine rL (Mu _) kQ hs.has λw4 X4 fX=>?_;have fQ:=dU.since fX;have h4:=h3.mv (fX.gV λk af=>dp.sub k (Qx k af).1);refine Ed fQ h4 zQ λx w5 X5 N5 ajh iL h5=>?_;have hz:=iL.s;clear hs;have hs:=ai.fG iL.s.has;repeat' first|(exact tQ (l:=[_]) iL h5 (by unfold yZ;simp[hq, *]))
 by_cases e3:c=15
 ·repeat' first|refine aJ ?_;intros|with_reducible apply cD
  refine Ed cY h2 zQ λx w5 X5 N5 ajh iL h5=>?_;clear hs;have hs:=ai.fG iL.s.has;repeat' refine ak ?_;intros
  refine Ed iL h5 (by simp only[aK];omega) λx w6 X6 N6 att kf h6=>?_;clear hs;repeat' first|(exact tQ (l:=[_,_]) kf h6 (by unfold yZ;rw[if_neg e1,if_neg e2,if_pos e3]))
 ·repeat' first|refine aJ ?_;intros|with_reducible apply cD
  refine cY.Gc (V2 c a b) kQ (λ_ h=>h.elim) (λv ze w3 X3 hq qB mz dU c3=>?_) λch ze w3 X3 hq qB mz dU c3 wb pe=>dU.jc pe ⟨23,by unfold yZ;rw[if_neg e1,if_neg e2,if_neg e3,if_pos hq.1],hq.2⟩;obtain⟨hnt,rfl⟩:=hq;have h3:=h2.mv (c3.jd λk af=>⟨(Qx k af).1,λh=>h.elim⟩);replace dU:=dU.less (F':=N) λk af=>.inl af;clear hs;have hs:=ai.fG dU.s.has
  skip
  refine Ed dU h3 zQ λx w5 X5 N5 ajh iL h5=>?_;clear hs;have hs:=ai.fG iL.s.has;repeat' first|(exact tQ (l:=[_]) iL h5 (by unfold yZ;rw[if_neg e1,if_neg e2,if_neg e3,if_neg hnt]))
end
def Rg (r:eI):List Nat:=encI r.id++(encI r.iB++(Hd r.lo++Hd r.hi))
def zl (v:pt):List Nat:=lx v.aV++I9 v.val
def B8 (h:kz):List Nat:=wg h.key++iT zl h.mE
def yT (p:gw):List Nat:=nA p.aM++(lx p.aV++(iT wg p.reads++iT sc p.writes))
def encS (s:State):List Nat:=Rg s.range++(lx s.floor++(lx s.closed++(iT B8 s.iu++iT yT s.gY)))
theorem Ch {α:Type} {f:α->List Nat} {xs:List α} {x:α} (h:xs[i]? =some x):(encI xs.length).length+((xs.take i).map f).flatten.length+(f x).length<=(iT f xs).length:=by
 have h1:xs=xs.take i++(x::xs.drop (i+1)):=by
  obtain⟨hi,rfl⟩:=List.getElem?_eq_some_iff.1 h;rw[<-List.drop_eq_getElem_cons hi,fq]
 have h2:(iT f xs).length=(encI xs.length).length+((xs.take i).map f).flatten.length+((f x).length+((xs.drop (i+1)).map f).flatten.length):=by
  unfold iT;conv=>lhs;rw[h1]
  rw[aD,dO,<-h1];simp only[bm,cW,aa];omega
 omega
theorem Pj (x:Nat):(Hd x).length=8:=by simp[Hd]
theorem E1 (n:Int):1<=(encI n).length:=by
 unfold encI pV;split<;>simp
theorem Vk (x:KV):x.key.size<=(sc x).length:=by
 have h1:=zY x.key;unfold sc;rw[aa];omega
variable {bs : List Nat} {vb : Value} {cb xb xo : Nat} {Z : XS}
theorem aap {b:Bool} (h:Wr w X lo wb vb bs) (hc:Cells w Z cb 0 (kZ wb)) (hx:Cells w Z xb xo [B b]) (hZ:uz Z X wb vb) (hb:bs.length<=2^38) (gA:lo<=w.heap.size):
  nW 188 #[ptr cb 0,ptr xb xo] w X lo wb vb bs (ad8 b):=by
 intro w0 hk;have dg:lo<=w0.heap.size:=ad gA hk.size;replace hc:=hc.mv (hZ.mv hk);replace hx:=hx.mv (hZ.mv hk);have hS:=WS.init (h.mv hk.cr);refine Kd.1 λ_=>?_;have hs:=hS.s;repeat' refine ak ?_;intros
 refine hS.fv (abr hS.r zQ dg) kQ λje w2 X2 bg qi=>?_
 skip
 exact bg.fin
theorem Dz {x:Nat} (h:Wr w X lo wb vb bs) (hc:Cells w Z cb 0 (kZ wb)) (hx:Cells w Z xb xo [.float .f64 x]) (hZ:uz Z X wb vb) (hb:bs.length<=2^38) (gA:lo<=w.heap.size):
  nW 190 #[ptr cb 0,ptr xb xo] w X lo wb vb bs (Hd x):=by
 intro w0 hk;have dg:lo<=w0.heap.size:=ad gA hk.size;replace hc:=hc.mv (hZ.mv hk);replace hx:=hx.mv (hZ.mv hk);have hS:=WS.init (h.mv hk.cr);refine IS.1 λ_=>?_;have hs:=hS.s;repeat' refine ak ?_;intros
 refine hS.fv (Mo hS.r zQ dg) kQ λje w2 X2 bg qi=>?_
 skip
 exact bg.fin
theorem V4 (h:Wr w X lo wb vb bs) (hc:Cells w Z cb 0 (kZ wb)) (hx:Cells w Z xb xo r.l) (hZ:uz Z X wb vb) (hb:bs.length<=2^36) (gA:lo<=w.heap.size):
  nW 263 #[ptr cb 0,ptr xb xo] w X lo wb vb bs (Rg r):=by
 have e1:=fz r.id;have e2:=fz r.iB;have e3:=Pj r.lo;intro w0 hk;have dg:lo<=w0.heap.size:=ad gA hk.size;replace hc:=hc.mv (hZ.mv hk);replace hx:=hx.mv (hZ.mv hk);have hS:=WS.init (h.mv hk.cr);refine IV.1 λ_=>?_;have hs:=hS.s;repeat' refine ak ?_;intros
 refine hS.fv (jO hS.r (hc.mv hS.at) (Cells.mv aQ hS.at) hS.z (by(try simp only[aa]);omega) (ad dg hs.kp.size)) kQ λje w X bg _=>?_;replace hs:=bg.s;repeat' refine ak ?_;intros
 refine bg.fv (jO bg.r (hc.mv bg.at) (Cells.mv aQ bg.at) bg.z (by(try simp only[aa]);omega) (ad dg hs.kp.size)) kQ λmQ w X bV _=>?_;replace hs:=bV.s;repeat' refine ak ?_;intros
 refine bV.fv (Dz bV.r (hc.mv bV.at) (Cells.mv aQ bV.at) bV.z (by(try simp only[aa]);omega) (ad dg hs.kp.size)) kQ λRU w X gZ _=>?_;replace hs:=gZ.s;repeat' refine ak ?_;intros
 refine gZ.fv (Dz gZ.r (hc.mv gZ.at) (Cells.mv aQ gZ.at) gZ.z (by(try simp only[aa]);omega) (ad dg hs.kp.size)) kQ λvb5 w X nh _=>?_;replace hs:=nh.s
 skip
 unfold Rg;simp only[ao] at nh;exact nh.fin
theorem R5 {x:pt} (h:Wr w X lo wb vb bs) (hc:Cells w Z cb 0 (kZ wb)) (hx:Cells w Z xb xo x.l) (hZ:uz Z X wb vb) (hb:bs.length<=2^36) (gA:lo<=w.heap.size):
  nW 327 #[ptr cb 0,ptr xb xo] w X lo wb vb bs (zl x):=by
 have e1:=uJ x.aV;intro w0 hk;have dg:lo<=w0.heap.size:=ad gA hk.size;replace hc:=hc.mv (hZ.mv hk);replace hx:=hx.mv (hZ.mv hk);have hS:=WS.init (h.mv hk.cr);refine Hb.1 λ_=>?_;have hs:=hS.s;repeat' refine ak ?_;intros
 refine hS.fv (kj (s:=x.aV) hS.r (hc.mv hS.at) (Cells.mv aQ hS.at) hS.z (by(try simp only[aa]);omega) (ad dg hs.kp.size)) kQ λje w X bg _=>?_;replace hs:=bg.s;repeat' refine ak ?_;intros
 refine bg.fv (Dx (v:=x.val) bg.r (hc.mv bg.at) (Cells.mv aQ bg.at) bg.z (by(try simp only[aa]);omega) (ad dg hs.kp.size)) kQ λmQ w X bV _=>?_;replace hs:=bV.s
 skip
 unfold zl;simp only[ao] at bV;exact bV.fin
variable {va : Value}
theorem PS {xs:List BA} (h:Wr w X lo wb vb bs) (hc:Cells w Z cb 0 (kZ wb)) (hx:Cells w Z xb xo [va]) (ha:Sl w Z 1 va (xs.map S1)) (hZ:uz Z X wb vb) (gA:lo<=w.heap.size) (hb:bs.length+(iT wg xs).length<=2^33):
  nW 267 #[ptr cb 0,ptr xb xo,.func (.func 268) #[ptr cb 0] #[]] w X lo wb vb bs (iT wg xs):=by
  intro w0 hk;have dg:lo<=w0.heap.size:=ad gA hk.size;replace hc:=hc.mv (hZ.mv hk);replace hx:=hx.mv (hZ.mv hk);replace ha:=ha.mv (hZ.mv hk);have hS:=WS.init (h.mv hk.cr);have kG:=ha.gO;refine IW.1 λ_=>?_;have hs:=hS.s;repeat' refine ak ?_;intros
  refine ij (λ(k:Value->World->XS->Prop)=> ∀w X je,WS w0 vb w X lo wb je (bs++encI xs.length)->k (I xs.length) w X) ?_ ?_
  ·intro w X je bg;refine fp (λn' a w X=> ∃(i:Nat) (uM:Value),a=I i/\n'=xs.length-i/\i<=xs.length/\WS w0 vb w X lo wb uM (bs++encI xs.length++((xs.take i).map wg).flatten)) xs.length ⟨0,je,rfl,rfl,aq _,by simpa using bg⟩ ?_;clear bg hS hs;rintro n' a w X ⟨i,uM,rfl,rfl,hi,hS⟩;have hs:=hS.s;rcases dA xs i with⟨cB,x,AD,hd⟩|⟨dB,hd⟩
   ·have gr:=Ch (f:=wg) AD;repeat' refine aJ ?_;intros
    refine ij (λ(k:World->XS->Prop)=>k w X) ?_ ?_
    ·repeat' refine ak ?_;intros
     refine C3 ?_;refine hS.fv (Bt (s:=x) hS.r (hc.mv hS.at) (Cells.mv aQ hS.at) hS.z (by simp only[aa];omega) (ad dg hs.kp.size) (by have:=zY x;omega)) kQ λmQ w3 X3 bV uD=>?_;replace hs:=bV.s;repeat' refine ak ?_;intros
     refine eP (xs.length-(i+1)) zQ ⟨i+1,mQ,by simp,rfl,by omega,?_⟩;rw[lM AD,<-ao];exact bV
    ·intro K hK;repeat' first|refine ak ?_;intros|exact hK
   ·rw[az dB] at hS;repeat' refine aJ ?_;intros
    rw[ao] at hS;exact hS.fin
  ·intro K hK;repeat' refine ak ?_;intros
   refine hS.fv (oW hS.r zQ dg) kQ λje w2 X2 bg qi=>?_;replace hs:=bg.s
   skip
   exact hK _ _ _ bg
theorem Gz {xs:List Int} (h:Wr w X lo wb vb bs) (hc:Cells w Z cb 0 (kZ wb)) (hx:Cells w Z xb xo [va]) (ha:Sl w Z 1 va (xs.map I1)) (hZ:uz Z X wb vb) (gA:lo<=w.heap.size) (hb:bs.length+(iT encI xs).length<=2^33):
  nW 186 #[ptr cb 0,ptr xb xo,.func (.func 183) #[ptr cb 0] #[]] w X lo wb vb bs (iT encI xs):=by
  intro w0 hk;have dg:lo<=w0.heap.size:=ad gA hk.size;replace hc:=hc.mv (hZ.mv hk);replace hx:=hx.mv (hZ.mv hk);replace ha:=ha.mv (hZ.mv hk);have hS:=WS.init (h.mv hk.cr);have kG:=ha.gO;refine DJ.1 λ_=>?_;have hs:=hS.s;repeat' refine ak ?_;intros
  refine ij (λ(k:Value->World->XS->Prop)=> ∀w X je,WS w0 vb w X lo wb je (bs++encI xs.length)->k (I xs.length) w X) ?_ ?_
  ·intro w X je bg;refine fp (λn' a w X=> ∃(i:Nat) (uM:Value),a=I i/\n'=xs.length-i/\i<=xs.length/\WS w0 vb w X lo wb uM (bs++encI xs.length++((xs.take i).map encI).flatten)) xs.length ⟨0,je,rfl,rfl,aq _,by simpa using bg⟩ ?_;clear bg hS hs;rintro n' a w X ⟨i,uM,rfl,rfl,hi,hS⟩;have hs:=hS.s;rcases dA xs i with⟨cB,x,AD,hd⟩|⟨dB,hd⟩
   ·have gr:=Ch (f:=encI) AD;repeat' refine aJ ?_;intros
    refine ij (λ(k:World->XS->Prop)=>k w X) ?_ ?_
    ·repeat' refine ak ?_;intros
     refine C3 ?_;refine hS.fv (jO (n:=x) hS.r (hc.mv hS.at) (Cells.mv aQ hS.at) hS.z (by simp only[aa];omega) (ad dg hs.kp.size)) kQ λmQ w3 X3 bV uD=>?_;replace hs:=bV.s;repeat' refine ak ?_;intros
     refine eP (xs.length-(i+1)) zQ ⟨i+1,mQ,by simp,rfl,by omega,?_⟩;rw[lM AD,<-ao];exact bV
    ·intro K hK;repeat' first|refine ak ?_;intros|exact hK
   ·rw[az dB] at hS;repeat' refine aJ ?_;intros
    rw[ao] at hS;exact hS.fin
  ·intro K hK;repeat' refine ak ?_;intros
   refine hS.fv (oW hS.r zQ dg) kQ λje w2 X2 bg qi=>?_;replace hs:=bg.s
   skip
   exact hK _ _ _ bg
variable {xs : List KV}
theorem JR (h:Wr w X lo wb vb bs) (hc:Cells w Z cb 0 (kZ wb)) (hx:Cells w Z xb xo [va]) (ha:Sl w Z 4 va (xs.map KV.l)) (hZ:uz Z X wb vb) (gA:lo<=w.heap.size) (hb:bs.length+(iT sc xs).length<=2^33):
  nW 191 #[ptr cb 0,ptr xb xo,.func (.func 192) #[ptr cb 0] #[]] w X lo wb vb bs (iT sc xs):=by
  intro w0 hk;have dg:lo<=w0.heap.size:=ad gA hk.size;replace hc:=hc.mv (hZ.mv hk);replace hx:=hx.mv (hZ.mv hk);replace ha:=ha.mv (hZ.mv hk);have hS:=WS.init (h.mv hk.cr);have kG:=ha.gO;refine FC.1 λ_=>?_;have hs:=hS.s;repeat' refine ak ?_;intros
  refine ij (λ(k:Value->World->XS->Prop)=> ∀w X je,WS w0 vb w X lo wb je (bs++encI xs.length)->k (I xs.length) w X) ?_ ?_
  ·intro w X je bg;refine fp (λn' a w X=> ∃(i:Nat) (uM:Value),a=I i/\n'=xs.length-i/\i<=xs.length/\WS w0 vb w X lo wb uM (bs++encI xs.length++((xs.take i).map sc).flatten)) xs.length ⟨0,je,rfl,rfl,aq _,by simpa using bg⟩ ?_;clear bg hS hs;rintro n' a w X ⟨i,uM,rfl,rfl,hi,hS⟩;have hs:=hS.s;rcases dA xs i with⟨cB,x,AD,hd⟩|⟨dB,hd⟩
   ·have gr:=Ch (f:=sc) AD;repeat' refine aJ ?_;intros
    refine ij (λ(k:World->XS->Prop)=>k w X) ?_ ?_
    ·repeat' refine ak ?_;intros
     refine C3 ?_;refine hS.fv (VW (x:=x) hS.r (hc.mv hS.at) (Cells.mv aQ hS.at) hS.z (by simp only[aa];omega) (ad dg hs.kp.size) (by have:=Vk x;omega)) kQ λmQ w3 X3 bV uD=>?_;replace hs:=bV.s;repeat' refine ak ?_;intros
     refine eP (xs.length-(i+1)) zQ ⟨i+1,mQ,by simp,rfl,by omega,?_⟩;rw[lM AD,<-ao];exact bV
    ·intro K hK;repeat' first|refine ak ?_;intros|exact hK
   ·rw[az dB] at hS;repeat' refine aJ ?_;intros
    rw[ao] at hS;exact hS.fin
  ·intro K hK;repeat' refine ak ?_;intros
   refine hS.fv (oW hS.r zQ dg) kQ λje w2 X2 bg qi=>?_;replace hs:=bg.s
   skip
   exact hK _ _ _ bg
theorem V5 (h:Wr w X lo wb vb bs) (hc:Cells w Z cb 0 (kZ wb)) (hx:Cells w Z xb xo [va]) (ha:Sl w Z 4 va (xs.map KV.l)) (hZ:uz Z X wb vb) (gA:lo<=w.heap.size) (hb:bs.length+(iT sc xs).length<=2^33):
  nW 193 #[ptr cb 0,ptr xb xo,.func (.func 194) #[ptr cb 0] #[]] w X lo wb vb bs (iT sc xs):=by
  intro w0 hk;have dg:lo<=w0.heap.size:=ad gA hk.size;replace hc:=hc.mv (hZ.mv hk);replace hx:=hx.mv (hZ.mv hk);replace ha:=ha.mv (hZ.mv hk);have hS:=WS.init (h.mv hk.cr);have kG:=ha.gO;refine G8.1 λ_=>?_;have hs:=hS.s;repeat' refine ak ?_;intros
  refine ij (λ(k:Value->World->XS->Prop)=> ∀w X je,WS w0 vb w X lo wb je (bs++encI xs.length)->k (I xs.length) w X) ?_ ?_
  ·intro w X je bg;refine fp (λn' a w X=> ∃(i:Nat) (uM:Value),a=I i/\n'=xs.length-i/\i<=xs.length/\WS w0 vb w X lo wb uM (bs++encI xs.length++((xs.take i).map sc).flatten)) xs.length ⟨0,je,rfl,rfl,aq _,by simpa using bg⟩ ?_;clear bg hS hs;rintro n' a w X ⟨i,uM,rfl,rfl,hi,hS⟩;have hs:=hS.s;rcases dA xs i with⟨cB,x,AD,hd⟩|⟨dB,hd⟩
   ·have gr:=Ch (f:=sc) AD;repeat' refine aJ ?_;intros
    refine ij (λ(k:World->XS->Prop)=>k w X) ?_ ?_
    ·repeat' refine ak ?_;intros
     refine C3 ?_;refine hS.fv (ZZ (x:=x) hS.r (hc.mv hS.at) (Cells.mv aQ hS.at) hS.z (by simp only[aa];omega) (ad dg hs.kp.size) (by have:=Vk x;omega)) kQ λmQ w3 X3 bV uD=>?_;replace hs:=bV.s;repeat' refine ak ?_;intros
     refine eP (xs.length-(i+1)) zQ ⟨i+1,mQ,by simp,rfl,by omega,?_⟩;rw[lM AD,<-ao];exact bV
    ·intro K hK;repeat' first|refine ak ?_;intros|exact hK
   ·rw[az dB] at hS;repeat' refine aJ ?_;intros
    rw[ao] at hS;exact hS.fin
  ·intro K hK;repeat' refine ak ?_;intros
   refine hS.fv (oW hS.r zQ dg) kQ λje w2 X2 bg qi=>?_;replace hs:=bg.s
   skip
   exact hK _ _ _ bg
theorem R6 {xs:List pt} (h:Wr w X lo wb vb bs) (hc:Cells w Z cb 0 (kZ wb)) (hx:Cells w Z xb xo [va]) (ha:Sl w Z 6 va (xs.map pt.l)) (hZ:uz Z X wb vb) (gA:lo<=w.heap.size) (hb:bs.length+(iT zl xs).length<=2^33):
  nW 326 #[ptr cb 0,ptr xb xo,.func (.func 327) #[ptr cb 0] #[]] w X lo wb vb bs (iT zl xs):=by
  intro w0 hk;have dg:lo<=w0.heap.size:=ad gA hk.size;replace hc:=hc.mv (hZ.mv hk);replace hx:=hx.mv (hZ.mv hk);replace ha:=ha.mv (hZ.mv hk);have hS:=WS.init (h.mv hk.cr);have kG:=ha.gO;refine D8.1 λ_=>?_;have hs:=hS.s;repeat' refine ak ?_;intros
  refine ij (λ(k:Value->World->XS->Prop)=> ∀w X je,WS w0 vb w X lo wb je (bs++encI xs.length)->k (I xs.length) w X) ?_ ?_
  ·intro w X je bg;refine fp (λn' a w X=> ∃(i:Nat) (uM:Value),a=I i/\n'=xs.length-i/\i<=xs.length/\WS w0 vb w X lo wb uM (bs++encI xs.length++((xs.take i).map zl).flatten)) xs.length ⟨0,je,rfl,rfl,aq _,by simpa using bg⟩ ?_;clear bg hS hs;rintro n' a w X ⟨i,uM,rfl,rfl,hi,hS⟩;have hs:=hS.s;rcases dA xs i with⟨cB,x,AD,hd⟩|⟨dB,hd⟩
   ·have gr:=Ch (f:=zl) AD;repeat' refine aJ ?_;intros
    refine ij (λ(k:World->XS->Prop)=>k w X) ?_ ?_
    ·repeat' refine ak ?_;intros
     refine C3 ?_;refine hS.fv (R5 (x:=x) hS.r (hc.mv hS.at) (Cells.mv aQ hS.at) hS.z (by simp only[aa];omega) (ad dg hs.kp.size)) kQ λmQ w3 X3 bV uD=>?_;replace hs:=bV.s;repeat' refine ak ?_;intros
     refine eP (xs.length-(i+1)) zQ ⟨i+1,mQ,by simp,rfl,by omega,?_⟩;rw[lM AD,<-ao];exact bV
    ·intro K hK;repeat' first|refine ak ?_;intros|exact hK
   ·rw[az dB] at hS;repeat' refine aJ ?_;intros
    rw[ao] at hS;exact hS.fin
  ·intro K hK;repeat' refine ak ?_;intros
   refine hS.fv (oW hS.r zQ dg) kQ λje w2 X2 bg qi=>?_;replace hs:=bg.s
   skip
   exact hK _ _ _ bg
theorem R7 {vv:Value} {x:kz} (h:Wr w X lo wb vb bs) (hc:Cells w Z cb 0 (kZ wb)) (hx:Cells w Z xb xo (x.l vv)) (ha:Sl w Z 6 vv (x.mE.map pt.l)) (hZ:uz Z X wb vb) (gA:lo<=w.heap.size) (hb:bs.length+(B8 x).length<=2^33):
  nW 265 #[ptr cb 0,ptr xb xo] w X lo wb vb bs (B8 x):=by
 have e1:(B8 x).length=(wg x.key).length+(iT zl x.mE).length:=by simp[B8]
 have e2:=zY x.key;replace ha:=λ{w1:World} (hk:Kp X w w1)=>ha.mv (hZ.mv hk);intro w0 hk;have dg:lo<=w0.heap.size:=ad gA hk.size;replace hc:=hc.mv (hZ.mv hk);replace hx:=hx.mv (hZ.mv hk);have hS:=WS.init (h.mv hk.cr);refine Ha.1 λ_=>?_;have hs:=hS.s;replace ha:=ha hk;repeat' refine ak ?_;intros
 refine hS.fv (Bt hS.r (hc.mv hS.at) (Cells.mv aQ hS.at) hS.z zQ dg zQ) kQ λje w X bg _=>?_;replace hs:=bg.s;repeat' refine ak ?_;intros
 refine bg.fv (R6 bg.r (hc.mv bg.at) (Cells.mv aQ bg.at) (ha.mv bg.at) bg.z (ad dg hs.kp.size) (by simp only[aa];omega)) kQ λmQ w X bV _=>?_
 skip
 unfold B8;simp only[ao] at bV;exact bV.fin
variable {vr vw : Value}
theorem GA {x:gw} (h:Wr w X lo wb vb bs) (hc:Cells w Z cb 0 (kZ wb)) (hx:Cells w Z xb xo (x.l vr vw)) (h1:Sl w Z 1 vr (x.reads.map S1)) (h2:Sl w Z 4 vw (x.writes.map KV.l)) (hZ:uz Z X wb vb) (gA:lo<=w.heap.size) (hb:bs.length+(yT x).length<=2^33):
  nW 185 #[ptr cb 0,ptr xb xo] w X lo wb vb bs (yT x):=by
 have e1:(yT x).length=(nA x.aM).length+((lx x.aV).length+((iT wg x.reads).length+(iT sc x.writes).length)):=by simp[yT]
 replace h1:=λ{w1:World} (hk:Kp X w w1)=>h1.mv (hZ.mv hk);replace h2:=λ{w1:World} (hk:Kp X w w1)=>h2.mv (hZ.mv hk);intro w0 hk;have dg:lo<=w0.heap.size:=ad gA hk.size;replace hc:=hc.mv (hZ.mv hk);replace hx:=hx.mv (hZ.mv hk);have hS:=WS.init (h.mv hk.cr);refine G7.1 λ_=>?_;have hs:=hS.s;replace h1:=h1 hk;replace h2:=h2 hk;have o1:=h1.one;have o2:=h2.one;repeat' refine ak ?_;intros
 refine hS.fv (zx (s:=x.aM) hS.r (hc.mv hS.at) (Cells.mv aQ hS.at) hS.z (by(try simp only[aa]);omega) (ad dg hs.kp.size)) kQ λje w X bg _=>?_;replace hs:=bg.s;repeat' refine ak ?_;intros
 refine bg.fv (kj (s:=x.aV) bg.r (hc.mv bg.at) (Cells.mv aQ bg.at) bg.z (by(try simp only[aa]);omega) (ad dg hs.kp.size)) kQ λmQ w X bV _=>?_;replace hs:=bV.s;repeat' refine ak ?_;intros
 refine bV.fv (PS bV.r (hc.mv bV.at) (Cells.mv aQ bV.at) (h1.mv bV.at) bV.z (ad dg hs.kp.size) (by simp only[aa];omega)) kQ λRU w X gZ _=>?_;replace hs:=gZ.s;repeat' refine ak ?_;intros
 refine gZ.fv (JR gZ.r (hc.mv gZ.at) (Cells.mv aQ gZ.at) (h2.mv gZ.at) gZ.z (ad dg hs.kp.size) (by simp only[aa];omega)) kQ λvb5 w X nh _=>?_
 skip
 unfold yT;simp only[ao] at nh;exact nh.fin
theorem PT {xs:List kz} (h:Wr w X lo wb vb bs) (hc:Cells w Z cb 0 (kZ wb)) (hx:Cells w Z xb xo [va]) (ha:qx w Z va xs) (hZ:uz Z X wb vb) (gA:lo<=w.heap.size) (hb:bs.length+(iT B8 xs).length<=2^33):
  nW 264 #[ptr cb 0,ptr xb xo,.func (.func 265) #[ptr cb 0] #[]] w X lo wb vb bs (iT B8 xs):=by
  intro w0 hk;have dg:lo<=w0.heap.size:=ad gA hk.size;replace hc:=hc.mv (hZ.mv hk);replace hx:=hx.mv (hZ.mv hk);replace ha:=ha.mv (hZ.mv hk);have hS:=WS.init (h.mv hk.cr);have kG:=fg.len ha;refine D6.1 λ_=>?_;have hs:=hS.s;repeat' refine ak ?_;intros
  refine ij (λ(k:Value->World->XS->Prop)=> ∀w X je,WS w0 vb w X lo wb je (bs++encI xs.length)->k (I xs.length) w X) ?_ ?_
  ·intro w X je bg;refine fp (λn' a w X=> ∃(i:Nat) (uM:Value),a=I i/\n'=xs.length-i/\i<=xs.length/\WS w0 vb w X lo wb uM (bs++encI xs.length++((xs.take i).map B8).flatten)) xs.length ⟨0,je,rfl,rfl,aq _,by simpa using bg⟩ ?_;clear bg hS hs;rintro n' a w X ⟨i,uM,rfl,rfl,hi,hS⟩;have hs:=hS.s;rcases dA xs i with⟨cB,x,AD,hd⟩|⟨dB,hd⟩
   ·have gr:=Ch (f:=B8) AD;repeat' refine aJ ?_;intros
    refine ij (λ(k:World->XS->Prop)=>k w X) ?_ ?_
    ·repeat' first|refine ak ?_;intros|((with_reducible apply RO);assumption;(try (case hz=>rfl));(case hr=>exact qR);(try (case hz=>omega));(case ht=>kernel_rfl);(case hs=>kernel_rfl);intros)
     refine C3 ?_;refine hS.fv (R7 (x:=x) hS.r (hc.mv hS.at) (Cells.mv aQ hS.at) (Sl.mv aQ hS.at) hS.z (ad dg hs.kp.size) (by simp only[aa];omega)) kQ λmQ w3 X3 bV uD=>?_;replace hs:=bV.s;repeat' refine ak ?_;intros
     refine eP (xs.length-(i+1)) zQ ⟨i+1,mQ,by simp,rfl,by omega,?_⟩;rw[lM AD,<-ao];exact bV
    ·intro K hK;repeat' first|refine ak ?_;intros|exact hK
   ·rw[az dB] at hS;repeat' refine aJ ?_;intros
    rw[ao] at hS;exact hS.fin
  ·intro K hK;repeat' refine ak ?_;intros
   refine hS.fv (oW hS.r zQ dg) kQ λje w2 X2 bg qi=>?_;replace hs:=bg.s
   skip
   exact hK _ _ _ bg
theorem PU {xs:List gw} (h:Wr w X lo wb vb bs) (hc:Cells w Z cb 0 (kZ wb)) (hx:Cells w Z xb xo [va]) (ha:qw w Z va xs) (hZ:uz Z X wb vb) (gA:lo<=w.heap.size) (hb:bs.length+(iT yT xs).length<=2^33):
  nW 266 #[ptr cb 0,ptr xb xo,.func (.func 185) #[ptr cb 0] #[]] w X lo wb vb bs (iT yT xs):=by
  intro w0 hk;have dg:lo<=w0.heap.size:=ad gA hk.size;replace hc:=hc.mv (hZ.mv hk);replace hx:=hx.mv (hZ.mv hk);replace ha:=ha.mv (hZ.mv hk);have hS:=WS.init (h.mv hk.cr);have kG:=fg.len ha;refine D7.1 λ_=>?_;have hs:=hS.s;repeat' refine ak ?_;intros
  refine ij (λ(k:Value->World->XS->Prop)=> ∀w X je,WS w0 vb w X lo wb je (bs++encI xs.length)->k (I xs.length) w X) ?_ ?_
  ·intro w X je bg;refine fp (λn' a w X=> ∃(i:Nat) (uM:Value),a=I i/\n'=xs.length-i/\i<=xs.length/\WS w0 vb w X lo wb uM (bs++encI xs.length++((xs.take i).map yT).flatten)) xs.length ⟨0,je,rfl,rfl,aq _,by simpa using bg⟩ ?_;clear bg hS hs;rintro n' a w X ⟨i,uM,rfl,rfl,hi,hS⟩;have hs:=hS.s;rcases dA xs i with⟨cB,x,AD,hd⟩|⟨dB,hd⟩
   ·have gr:=Ch (f:=yT) AD;repeat' refine aJ ?_;intros
    refine ij (λ(k:World->XS->Prop)=>k w X) ?_ ?_
    ·repeat' first|refine ak ?_;intros|((with_reducible apply Wu);assumption;(try (case hz=>rfl));(case hr=>exact qR);(try (case hz=>omega));(case ht=>kernel_rfl);(case hs=>kernel_rfl);intros)
     refine C3 ?_;refine hS.fv (GA (x:=x) hS.r (hc.mv hS.at) (Cells.mv aQ hS.at) (Sl.mv aQ hS.at) (Sl.mv aQ hS.at) hS.z (ad dg hs.kp.size) (by simp only[aa];omega)) kQ λmQ w3 X3 bV uD=>?_;replace hs:=bV.s;repeat' refine ak ?_;intros
     refine eP (xs.length-(i+1)) zQ ⟨i+1,mQ,by simp,rfl,by omega,?_⟩;rw[lM AD,<-ao];exact bV
    ·intro K hK;repeat' first|refine ak ?_;intros|exact hK
   ·rw[az dB] at hS;repeat' refine aJ ?_;intros
    rw[ao] at hS;exact hS.fin
  ·intro K hK;repeat' refine ak ?_;intros
   refine hS.fv (oW hS.r zQ dg) kQ λje w2 X2 bg qi=>?_;replace hs:=bg.s
   skip
   exact hK _ _ _ bg
variable {vh vp : Value}
theorem V6 {x:State} (h:Wr w X lo wb vb bs) (hc:Cells w Z cb 0 (kZ wb)) (hx:Cells w Z xb xo (x.l vh vp)) (h1:qx w Z vh x.iu) (h2:qw w Z vp x.gY) (hZ:uz Z X wb vb) (gA:lo<=w.heap.size) (hb:bs.length+(encS x).length<=2^33):
  nW 184 #[ptr cb 0,ptr xb xo] w X lo wb vb bs (encS x):=by
 have e1:(encS x).length=(Rg x.range).length+((lx x.floor).length+((lx x.closed).length+((iT B8 x.iu).length+(iT yT x.gY).length))):=by simp[encS]
 replace h1:=λ{w1:World} (hk:Kp X w w1)=>qx.mv h1 (hZ.mv hk);replace h2:=λ{w1:World} (hk:Kp X w w1)=>qw.mv h2 (hZ.mv hk);intro w0 hk;have dg:lo<=w0.heap.size:=ad gA hk.size;replace hc:=hc.mv (hZ.mv hk);replace hx:=hx.mv (hZ.mv hk);have hS:=WS.init (h.mv hk.cr);refine IQ.1 λ_=>?_;have hs:=hS.s;replace h1:=h1 hk;replace h2:=h2 hk;have o1:=h1.one;have o2:=h2.one;repeat' refine ak ?_;intros
 refine hS.fv (V4 (r:=x.range) hS.r (hc.mv hS.at) (Cells.mv aQ hS.at) hS.z (by(try simp only[aa]);omega) (ad dg hs.kp.size)) kQ λje w X bg _=>?_;replace hs:=bg.s;repeat' refine ak ?_;intros
 refine bg.fv (kj (s:=x.floor) bg.r (hc.mv bg.at) (Cells.mv aQ bg.at) bg.z (by(try simp only[aa]);omega) (ad dg hs.kp.size)) kQ λmQ w X bV _=>?_;replace hs:=bV.s;repeat' refine ak ?_;intros
 refine bV.fv (kj (s:=x.closed) bV.r (hc.mv bV.at) (Cells.mv aQ bV.at) bV.z (by(try simp only[aa]);omega) (ad dg hs.kp.size)) kQ λRU w X gZ _=>?_;replace hs:=gZ.s;repeat' refine ak ?_;intros
 refine gZ.fv (PT gZ.r (hc.mv gZ.at) (Cells.mv aQ gZ.at) (h1.mv gZ.at) gZ.z (ad dg hs.kp.size) (by simp only[aa];omega)) kQ λvb5 w X nh _=>?_;replace hs:=nh.s;repeat' refine ak ?_;intros
 refine nh.fv (PU nh.r (hc.mv nh.at) (Cells.mv aQ nh.at) (h2.mv nh.at) nh.z (ad dg hs.kp.size) (by simp only[aa];omega)) kQ λvb6 w X Vl _=>?_
 skip
 unfold encS;simp only[ao] at Vl;exact Vl.fin
def ga (r:Rec):List Nat:=encI r.kind++(
 if r.kind=1 then encS r.state
 else if r.kind=2\/r.kind=7\/r.kind=8 then encI r.n
 else if r.kind=3 then yT ⟨r.aM,r.aV,r.reads,r.writes⟩++iT encI r.parts
 else if r.kind=4 then nA r.aM++(ad8 r.jG++lx r.aV)
 else if r.kind=5 then lx r.aV
 else if r.kind=6 then Hd r.rW++(encI r.n++lx r.aV)
 else if r.kind=9 then nA r.aM++(lx r.aV++iT encI r.parts)
 else if r.kind=10 then nA r.aM
 else if r.kind=11 then lx r.prev++(lx r.aV++(nA r.aM++iT sc r.writes))
 else if r.kind=12 then lx r.aV++iT sc r.wR
 else [])
variable {ty : TypeId} {o : Nat} {R : Ending -> World -> Prop}
theorem Ji {t o':Nat} {N:Value->World->XS->Prop} (h:aH w X b cs ty) (L5:o'=o) (ht:(P.info? t).map (·.size)=some sz)
  (hl:o+sz<=cs.length) (hv:v.cells.size=sz) (h1:v.cells.toList.all aL.one=true) (hX: ∀k,X k->k<w.heap.size) (he:dr cs o v.cells.toList=cs)
  (n: ∀w' X',ai X w X' w'->N undef w' X'):eU P R X w true (st1 t sz (ptr b o') v) N:=by
 refine FU h L5 ht hl hv h1 hX λw' X' c hr=>n w' X' ⟨⟨c.os,c.tape,c.output,c.size,λk hk=>?_⟩,c.sub,c.has⟩;by_cases e:k=b
 ·subst e;rw[h.2,hr.2,he]
 ·exact c.block k hk e
variable {w0 : World}
theorem WS.OY {th:Value} (hS:WS w0 th w X lo wb vb bs) (hr:aH w X b cs ty) (hb:w0.heap.size<=b)
  (h1:decide (409≠ty)=true) (h2:decide (5≠ty)=true) (c:dY (λk=>k=b) X w X' w'):WS w0 th w' X' lo wb vb bs:=by
 have ct:wb≠b:=hS.r.box.eH hr h1;refine⟨hS.s.dX c λq h0 hq=>?_,⟨⟨c.sub _ hS.r.box.1,by rw[c.block _ hS.r.box.1 λe=>ct e];exact hS.r.box.2⟩,Own.dX hS.r.ow c λg hg e=>Own.eH hS.r.ow hr h2 (by rw[hg,e])⟩,hS.v⟩;have:=h0.1;omega
variable {F : XS}
theorem _root_.Go.aL.aH.dX (h:aH w X b cs ty) (c:dY F X w X' w') (hn: ¬F b):aH w' X' b cs ty:=⟨c.sub _ h.1,by rw[c.block _ h.1 hn];exact h.2⟩
variable {vd vq : Value}
theorem abD {r:Rec} (h:Wr w X lo wb vb bs) (hc:Cells w Z cb 0 (kZ wb)) (hx:aH w Z xb (r.l vr vw vp vq vh vd) 73) (dh:r.at w Z vr vw vp vq vh vd) (hZ:uz Z X wb vb) (gA:lo<=w.heap.size)
  (hb:bs.length+(ga r).length<=2^33):nW 134 #[ptr cb 0,ptr xb 0] w X lo wb vb bs (ga r):=by
 intro w0 hk;have dg:lo<=w0.heap.size:=ad gA hk.size;replace hc:=hc.mv (hZ.mv hk);replace hx:=hx.mv (hZ.mv hk);replace dh:=dh.mv (hZ.mv hk);obtain⟨a1,a2,a3,a4,a5,a6⟩:=dh;obtain⟨p1,n1,c1,rfl⟩:=a1.form;obtain⟨p2,n2,c2,rfl⟩:=a2.form;have bw:=hx;replace hx:=hx.cells;have hS:=WS.init (h.mv hk.cr);have e1:=fz r.kind;obtain⟨E,hE⟩: ∃E,E=ga r:=⟨_,rfl⟩;rw[<-hE] at hb⊢;unfold ga at hE;have hEl:(encI r.kind).length<=E.length:=by rw[hE,aa];omega
 refine Lz.1 λ_=>?_;have hs:=hS.s;repeat' refine ak ?_;intros
 refine hS.fv (jO hS.r (hc.mv hS.at) (Cells.mv aQ hS.at) hS.z zQ (ad dg hs.kp.size)) kQ λje w X bg _=>?_;replace hs:=bg.s;repeat' refine ak ?_;intros
 refine ij (λ(k:World->XS->Prop)=> ∀w X mQ,WS w0 vb w X lo wb mQ (bs++E)->k w X) (λw X mQ bV=>bV.fin) λK hK=>?_;repeat' first|refine ak ?_;intros|refine cQ ?_ ?_<;>intros|with_reducible apply cD
 all_goals (repeat (first|rw[if_pos zQ] at hE|rw[if_neg zQ] at hE))
 all_goals (have hEb:=congrArg ba hE;simp only[aa] at hEb)
 ·refine bg.fv (V6 (x:=r.state) bg.r (hc.mv bg.at) (Cells.mv aQ bg.at) (a5.mv bg.at) (a6.mv bg.at) bg.z (ad dg hs.kp.size) (by simp only[aa];omega)) kQ λmQ w X bV _=>?_;have h9:=bV;rw[hE] at hK
  (try simp only[ao] at h9 hK)
  exact hK _ _ _ h9
 ·refine bg.fv (jO bg.r (hc.mv bg.at) (Cells.mv aQ bg.at) bg.z (by simp only[aa];omega) (ad dg hs.kp.size)) kQ λmQ w X bV _=>?_;have h9:=bV;rw[hE] at hK
  (try simp only[ao] at h9 hK)
  exact hK _ _ _ h9
 ·refine bg.fv (jO bg.r (hc.mv bg.at) (Cells.mv aQ bg.at) bg.z (by simp only[aa];omega) (ad dg hs.kp.size)) kQ λmQ w X bV _=>?_;have h9:=bV;rw[hE] at hK
  (try simp only[ao] at h9 hK)
  exact hK _ _ _ h9
 ·refine bg.fv (jO bg.r (hc.mv bg.at) (Cells.mv aQ bg.at) bg.z (by simp only[aa];omega) (ad dg hs.kp.size)) kQ λmQ w X bV _=>?_;have h9:=bV;rw[hE] at hK
  (try simp only[ao] at h9 hK)
  exact hK _ _ _ h9
 ·have e2:(yT ⟨r.aM,r.aV,r.reads,r.writes⟩).length<=E.length:=by omega
  refine MU (l:=[I 0,I 0,I 0,I 0,I 0,I 0,.slice none 0 0,.slice none 0 0]) hs.has kQ λpb w3 X3 Gb dp aj6=>?_;have bV:=bg.since dp;refine FU (o:=0) aj6 rfl kQ sQ rfl rfl dp.has λw4 X4 c4 Cm=>?_;replace Cm:aH w4 X4 pb ((⟨r.aM,r.aV,r.reads,r.writes⟩:gw).l (.slice p1 n1 c1) (.slice p2 n2 c2)) 306:=Cm;have ar0:w0.heap.size<=pb:=ad hs.kp.size Gb;have gZ:=bV.OY aj6 ar0 kQ kQ c4;have hnf: ¬DO wb je pb:=λhf=>hf.elim (λe=>gZ.r.box.eH Cm kQ e.symm) λe=>Own.eH gZ.r.ow Cm kQ e;obtain⟨Z',hZ'⟩: ∃Z':XS,Z'=λk=>k=pb\/out (DO wb vb) w0 k:=⟨_,rfl⟩;have mv4:Mv (out (DO wb vb) w0) w0 Z' w4:=λk af _=>⟨by rw[hZ'];exact .inr af,gZ.s.kp.block k af⟩;have tG:uz Z' X4 wb je:=λk af=>by
   rw[hZ'] at af;rcases af with rfl|af
   ·exact⟨Cm.1,hnf⟩
   ·exact gZ.z k af
  refine gZ.fv (GA (x:=⟨r.aM,r.aV,r.reads,r.writes⟩) gZ.r (hc.mv mv4) (aH.cells (X:=Z') (ty:=306) ⟨by rw[hZ'];exact .inl rfl,Cm.2⟩) (a1.mv mv4) (a2.mv mv4) tG (ad dg gZ.s.kp.size) (by simp only[aa];omega)) kQ λvb5 w5 X5 nh c5=>?_;have ae2:=Cm.dX c5 hnf;clear hs;have hs:=nh.s;repeat' refine ak ?_;intros
  refine Ji (o:=1) (bw.mv nh.s.mv) zQ kQ sQ rfl rfl nh.s.has (by rfl) λw6 X6 tF=>?_;have Vl:=nh.since tF;repeat' refine ak ?_;intros
  refine Ji (o:=4) (bw.mv Vl.s.mv) zQ kQ sQ rfl rfl Vl.s.has (by rfl) λw7 X7 oO=>?_;have hS7:=Vl.since oO;repeat' refine ak ?_;intros
  refine Ji (o:=13) (bw.mv hS7.s.mv) zQ kQ sQ rfl rfl hS7.s.has (by rfl) λw8 X8 kV=>?_;have hS8:=hS7.since kV;repeat' refine ak ?_;intros
  refine Ji (o:=14) (bw.mv hS8.s.mv) zQ kQ sQ rfl rfl hS8.s.has (by rfl) λw9 X9 Ar=>?_;have hS9:=hS8.since Ar;clear hs;have hs:=hS9.s;repeat' refine ak ?_;intros
  refine hS9.fv (Gz hS9.r (hc.mv hS9.at) (Cells.mv aQ hS9.at) (a3.mv hS9.at) hS9.z (ad dg hs.kp.size) (by simp only[aa];omega)) kQ λatu w X ar1 _=>?_;have h9:=ar1;rw[hE] at hK
  (try simp only[ao] at h9 hK)
  exact hK _ _ _ h9
 ·refine bg.fv (zx (s:=r.aM) bg.r (hc.mv bg.at) (Cells.mv aQ bg.at) bg.z (by(try simp only[aa]);omega) (ad dg hs.kp.size)) kQ λmQ w X bV _=>?_;replace hs:=bV.s;repeat' refine ak ?_;intros
  refine bV.fv (aap (b:=r.jG) bV.r (hc.mv bV.at) (Cells.mv aQ bV.at) bV.z (by(try simp only[aa]);omega) (ad dg hs.kp.size)) kQ λRU w X gZ _=>?_;replace hs:=gZ.s;repeat' refine ak ?_;intros
  refine gZ.fv (kj (s:=r.aV) gZ.r (hc.mv gZ.at) (Cells.mv aQ gZ.at) gZ.z (by(try simp only[aa]);omega) (ad dg hs.kp.size)) kQ λvb5 w X nh _=>?_;replace hs:=nh.s
  skip
  have h9:=nh;rw[hE] at hK
  (try simp only[ao] at h9 hK)
  exact hK _ _ _ h9
 ·refine bg.fv (kj (s:=r.aV) bg.r (hc.mv bg.at) (Cells.mv aQ bg.at) bg.z (by(try simp only[aa]);omega) (ad dg hs.kp.size)) kQ λmQ w X bV _=>?_;replace hs:=bV.s
  skip
  have h9:=bV;rw[hE] at hK
  (try simp only[ao] at h9 hK)
  exact hK _ _ _ h9
 ·refine bg.fv (Dz bg.r (hc.mv bg.at) (Cells.mv aQ bg.at) bg.z (by(try simp only[aa]);omega) (ad dg hs.kp.size)) kQ λmQ w X bV _=>?_;replace hs:=bV.s;repeat' refine ak ?_;intros
  refine bV.fv (jO bV.r (hc.mv bV.at) (Cells.mv aQ bV.at) bV.z (by(try simp only[aa]);omega) (ad dg hs.kp.size)) kQ λRU w X gZ _=>?_;replace hs:=gZ.s;repeat' refine ak ?_;intros
  refine gZ.fv (kj (s:=r.aV) gZ.r (hc.mv gZ.at) (Cells.mv aQ gZ.at) gZ.z (by(try simp only[aa]);omega) (ad dg hs.kp.size)) kQ λvb5 w X nh _=>?_;replace hs:=nh.s
  skip
  have h9:=nh;rw[hE] at hK
  (try simp only[ao] at h9 hK)
  exact hK _ _ _ h9
 ·refine bg.fv (zx (s:=r.aM) bg.r (hc.mv bg.at) (Cells.mv aQ bg.at) bg.z (by(try simp only[aa]);omega) (ad dg hs.kp.size)) kQ λmQ w X bV _=>?_;replace hs:=bV.s;repeat' refine ak ?_;intros
  refine bV.fv (kj (s:=r.aV) bV.r (hc.mv bV.at) (Cells.mv aQ bV.at) bV.z (by(try simp only[aa]);omega) (ad dg hs.kp.size)) kQ λRU w X gZ _=>?_;replace hs:=gZ.s;repeat' refine ak ?_;intros
  refine gZ.fv (Gz gZ.r (hc.mv gZ.at) (Cells.mv aQ gZ.at) (a3.mv gZ.at) gZ.z (ad dg hs.kp.size) (by simp only[aa];omega)) kQ λvb5 w X nh _=>?_;have h9:=nh;rw[hE] at hK
  (try simp only[ao] at h9 hK)
  exact hK _ _ _ h9
 ·refine bg.fv (zx (s:=r.aM) bg.r (hc.mv bg.at) (Cells.mv aQ bg.at) bg.z (by(try simp only[aa]);omega) (ad dg hs.kp.size)) kQ λmQ w X bV _=>?_;replace hs:=bV.s
  skip
  have h9:=bV;rw[hE] at hK
  (try simp only[ao] at h9 hK)
  exact hK _ _ _ h9
 ·refine bg.fv (kj (s:=r.prev) bg.r (hc.mv bg.at) (Cells.mv aQ bg.at) bg.z (by(try simp only[aa]);omega) (ad dg hs.kp.size)) kQ λmQ w X bV _=>?_;replace hs:=bV.s;repeat' refine ak ?_;intros
  refine bV.fv (kj (s:=r.aV) bV.r (hc.mv bV.at) (Cells.mv aQ bV.at) bV.z (by(try simp only[aa]);omega) (ad dg hs.kp.size)) kQ λRU w X gZ _=>?_;replace hs:=gZ.s;repeat' refine ak ?_;intros
  refine gZ.fv (zx (s:=r.aM) gZ.r (hc.mv gZ.at) (Cells.mv aQ gZ.at) gZ.z (by(try simp only[aa]);omega) (ad dg hs.kp.size)) kQ λvb5 w X nh _=>?_;replace hs:=nh.s;repeat' refine ak ?_;intros
  refine nh.fv (JR nh.r (hc.mv nh.at) (Cells.mv aQ nh.at) (a2.mv nh.at) nh.z (ad dg hs.kp.size) (by simp only[aa];omega)) kQ λvb6 w X Vl _=>?_;have h9:=Vl;rw[hE] at hK
  (try simp only[ao] at h9 hK)
  exact hK _ _ _ h9
 ·refine bg.fv (kj (s:=r.aV) bg.r (hc.mv bg.at) (Cells.mv aQ bg.at) bg.z (by(try simp only[aa]);omega) (ad dg hs.kp.size)) kQ λmQ w X bV _=>?_;replace hs:=bV.s;repeat' refine ak ?_;intros
  refine bV.fv (V5 bV.r (hc.mv bV.at) (Cells.mv aQ bV.at) (a4.mv bV.at) bV.z (ad dg hs.kp.size) (by simp only[aa];omega)) kQ λRU w X gZ _=>?_;have h9:=gZ;rw[hE] at hK
  (try simp only[ao] at h9 hK)
  exact hK _ _ _ h9
 ·rw[List.append_nil] at hE;have h9:=bg;rw[hE] at hK
  (try simp only[ao] at h9 hK)
  exact hK _ _ _ h9
def Rec.fJ (r:Rec):Int:=if r.err≠0 then r.err else if 262144<(ga r).length then 2 else 0
theorem Dq {r:Rec} (h:r.at w X vr vw vp vq vh vd) (mK:r.small) (lh:r.err=0->(ga r).length<=2^33):
  Ct pg 136 #[r.v vr vw vp vq vh vd] w X nX λv wa w'=>if r.fJ≠0 then v= .tuple #[.slice none 0 0,I r.fJ] else∃vb,v= .tuple #[vb,I 0]/\Own w' (made wa w') wa.heap.size 5 1 vb ((ga r).map U1):=by
 intro w0 hk;replace h:=h.mv hk.cr;refine Tb.1 λhs=>?_;repeat' first|refine ak ?_;intros|refine cQ ?_ ?_<;>intros|(refine Od hs ?_;intro bx w X gr ax gf hs bw)|(refine dS (aeP (r:=r) (h.mv (gf.trans hs).mv) mK) kQ hs.has λw X ax=>?_;replace hs:=hs.trans ax)|(refine qr ?_;intro wa hk;(have e:r.fJ=r.err:=if_pos aQ;rw[e,if_pos aQ]))
 ·have FK:r.err=0:=by assumption
  refine cu PL kQ hs.has ?_;rintro v wa w2 X2 ⟨wb,rfl,hW⟩ hle gv bB;have Mt:=gf.trans (hs.trans bB);have lK:=bw.lt;have Qf:=hs.kp.size;refine aer kQ ?_;refine A6 Mt.has λcb w3 X3 hcb dp Q5=>?_;have Ou:=Mt.trans dp;have MJ:=(bw.since (hs.trans bB)).since dp;obtain⟨Z,hZd⟩: ∃Z:XS,Z=λk=>k=bx\/k=cb\/bK w0 k:=⟨_,rfl⟩;have atv:wa.heap.size<=wb/\wb<w2.heap.size:=hW.box.1;have hZ:uz Z X3 wb (.slice none 0 0):=λk af=>by
   rw[hZd] at af;refine⟨?_,λhf=>?_⟩
   ·rcases af with rfl|rfl|af
    ·exact MJ.1
    ·exact Q5.1
    ·exact Ou.sub k af
   ·rcases hf with hf|hf
    ·rcases af with e|e|e
     ·omega
     ·omega
     ·have:k<w0.heap.size:=e;omega
    ·cases hf
  have hcC:Cells w3 Z cb 0 (kZ wb):=aH.cells (ty:=249) ⟨by rw[hZd];exact .inr (.inl rfl),Q5.2⟩;have hxC:aH w3 Z bx (r.l vr vw vp vq vh vd) 73:=⟨by rw[hZd];exact .inl rfl,MJ.2⟩;have haC:r.at w3 Z vr vw vp vq vh vd:=h.mv λk af hl=>⟨by rw[hZd];exact .inr (.inr af),Ou.kp.block k af⟩;have Qi:Wr w3 X3 wa.heap.size wb (.slice none 0 0) []:=(hW.mv (Mv.sub gv)).mv dp.mv;refine yP (abD Qi hcC hxC haC hZ (by have:=dp.kp.size;omega) (by simpa using (lh FK))) kQ Ou.has (λq hq=>by
   rcases hq with rfl|hq
   ·exact Qi.box.1
   ·cases hq) λv zf w4 X4 hq tq oF atw EO=>?_
  obtain⟨rfl,Ml,hW4⟩:=hq;have fX:=Ou.dX EO λk af hf=>by
   have h0:k<w0.heap.size:=af;rcases hf with hf|hf
   ·omega
   ·cases hf
  have hW5:Wr w4 X4 wa.heap.size wb Ml (ga r):=hW4.mv (Mv.sub λk af=>by
   rcases af with(af|af)|af
   ·rw[af];exact EO.sub _ Qi.box.1
   ·cases af
   ·exact oF k af)
  refine cu (ZY hW5 zQ) kQ fX.has ?_;rintro v5 Oc w5 X5 tY Il ED sS;have hsC:=fX.trans sS;have ho:Own w5 X5 w0.heap.size 5 1 v5 ((ga r).map U1):=tY.up ED (by have:=fX.kp.size;omega);clear hs gf;have hs:=hsC;have hl:(List.map U1 (ga r)).length=(ga r).length:=ah _;repeat' first|refine ak ?_;intros|refine cQ ?_ ?_<;>intros
  ·have e:r.fJ=2:=by unfold Rec.fJ;rw[if_neg zQ,if_pos zQ]
   exact bS hs λwb aI=>by rw[e,if_pos zQ]
  ·have e:r.fJ=0:=by unfold Rec.fJ;rw[if_neg zQ,if_neg zQ]
   exact bS hs λwb aI=>by
    rw[e,if_neg zQ];exact⟨v5,rfl,(ho.kp aI).tight⟩
def R8 (n:Int):Bool:=(decide (n>=1)&&decide (n<=12))||(decide (n>20)&&decide (n<=22))||decide (n=31)||decide (n=32)
theorem DA (n:Int):Pure pg 148 #[I n] (B (decide (n>=1)&&decide (n<=12))):=by
 intro w;refine Tc.1 λ_=>?_;have hs:=ai.init w;repeat' first|refine ak ?_;intros|refine cQ ?_ ?_<;>intros|(with_reducible refine fK hs ?_);simp_all<;>omega
theorem abE (n:Int):Pure pg 97 #[I n] (B (R8 n)):=by
 intro w;refine Zo.1 λ_=>?_;have hs:=ai.init w;repeat' first|refine ak ?_;intros|refine cQ ?_ ?_<;>intros|(refine kh (DA _) hs ?_ ?_<;>intro _ w X hs)|(with_reducible refine fK hs ?_);simp_all [R8]<;>omega
structure cJ.at (w:World) (X:XS) (m:cJ) (vk vs vw vp vr vc vh vd:Value):Prop where
 keys:Sl w X 1 vk (m.keys.map S1)
 seen:Sl w X 7 vs (m.seen.map fb.l)
 writes:Sl w X 4 vw (m.writes.map KV.l)
 parts:Sl w X 1 vp (m.parts.map I1)
 ranges:Sl w X 4 vr (m.ranges.map eI.l)
 bh:fg w X 29 vc Rec.rd m.bh
 iu:qx w X vh m.state.iu
 gY:qw w X vd m.state.gY
def cJ.at.mv {m:cJ} {vk vs vc:Value} (h:m.at w X vk vs vw vp vr vc vh vd) (v:Mv X w Y w'):m.at w' Y vk vs vw vp vr vc vh vd:=
 ⟨h.keys.mv v,h.seen.mv v,h.writes.mv v,h.parts.mv v,h.ranges.mv v,fg.mv h.bh Rec.mv v,fg.mv h.iu kz.mv v,fg.mv h.gY gw.mv v⟩
def cJ.rd (w:World) (X:XS) (l:List Value) (m:cJ):Prop:= ∃vk vs vw vp vr vc vh vd,l=m.l vk vs vw vp vr vc vh vd/\m.at w X vk vs vw vp vr vc vh vd
def cJ.mv:Gi cJ.rd:=λ⟨vk,vs,vw,vp,vr,vc,vh,vd,h,h1⟩ m=>⟨vk,vs,vw,vp,vr,vc,vh,vd,h,h1.mv m⟩
theorem Hg {xs:List BA} (ha:Sl w X 1 a (xs.map S1)):
  Ct pg 214 #[a] w X nX λv _ _=>v=B (yw xs):=by
 intro w0 hk;replace ha:=ha.mv hk.cr;have kG:=ha.gO;refine Zv.1 λhs=>?_;repeat' refine ak ?_;intros
 refine fp (λn a w X=> ∃i:Nat,a=I (i:Nat)/\n=(xs).length-i/\i<=(xs).length/\ai (bK w0) w0 X w/\chain iJ zo none xs=chain iJ zo (uo xs i) (xs.drop i)) (xs).length ⟨0,rfl,rfl,aq _,hs,by simp[uo]⟩ ?_;rintro n a w X ⟨i,rfl,rfl,hi,hs,hw⟩;rcases dA (xs) i with⟨cB,x,hx,hd⟩|⟨dB,hd⟩
 ·rcases M3 cB with⟨h0,hp⟩|⟨h0,y,hy,hp⟩<;>rw[hp,hd,chain] at hw<;>clear hd
  ·repeat' first|refine aJ ?_;intros|(refine kh (lf _) hs ?_ ?_<;>intro _ w X hs)|(refine qr ?_;intro wa hk;simp_all [yw,rising,chain])|((with_reducible refine eP ((xs).length-(i+1)) ?_ ?_);omega;exact⟨i+1,by simp,rfl,by omega,hs,by rw[hw,qZ hx];simp[*]⟩)
  ·repeat' first|refine aJ ?_;intros|refine cQ ?_ ?_<;>intros|(refine kh (lf _) hs ?_ ?_<;>intro _ w X hs)|(refine qr ?_;intro wa hk;simp_all [yw,rising,chain])|((with_reducible refine eP ((xs).length-(i+1)) ?_ ?_);omega;exact⟨i+1,by simp,rfl,by omega,hs,by rw[hw,qZ hx];simp[*]⟩)
 ·repeat' first|refine aJ ?_;intros|refine cQ ?_ ?_<;>intros|(refine qr ?_;intro wa hk;simp_all [yw,rising,chain]<;>omega)
def fb.may (x:fb):Bool:=x.aV.may&&x.val.may&&!(decide (x.aV= .zero)&&decide (x.val.kind≠0))
def H7 (l:List fb):Bool:=l.all fb.may&&yw (l.map (·.key))
theorem abF {xs:List fb} (ha:Sl w X 7 a (xs.map fb.l)) (hb:xs.length<=2^40):
  Ct pg 216 #[a] w X nX λv _ _=>v=B (H7 xs):=by
 intro w0 hk;replace ha:=ha.mv hk.cr;have kG:=ha.gO;refine Zx.1 λhs=>?_;repeat' refine ak ?_;intros
 refine gz (λn a b w X=> ∃i:Nat,a=I i/\n=xs.length-i/\i<=xs.length/\ai (bK w0) w0 X w/\Own w X w0.heap.size 9 1 b (((xs.take i).map (·.key)).map S1)/\xs.all fb.may=(xs.drop i).all fb.may) xs.length ⟨0,rfl,rfl,aq _,hs,Own.nil _ _ _ _ _,by simp⟩ ?_;rintro n a b w X ⟨i,rfl,rfl,hi,hs,ho,hw⟩;rcases dA (xs) i with⟨cB,x,hx,hd⟩|⟨dB,hd⟩
 ·rw[hd,iV] at hw;have FK: ∀q:Bool,q=false->x.may=q->H7 xs=false:=λq hq h=>by simp[H7,hw,h,hq]
  repeat' first|refine aJ ?_;intros|refine cQ ?_ ?_<;>intros|(with_reducible refine Fq _ ?_ ?_ ?_);(· kernel_rfl);all_goals intros|((with_reducible apply MO);(case own=>first|assumption|exact Own.since aQ aQ);(case hs=>assumption);(case h0=>first|exact λ_ h=>h|exact gf.has);(case he=>kernel_rfl);(case hk=>rfl);(case ho=>first|rfl|assumption);(case hb=>(simp only[ah,aB,aa,aK,br];omega));(case hl=>(simp only[ah,aB,aa,aK,br];omega));intro acc w X ax ho hc dh;replace hs:=ax)|with_reducible apply cD|((with_reducible refine M1 (pA _) ?_ hs.has ?_ ?_);(· kernel_rfl);all_goals (intro _ w X ax;replace hs:=hs.trans ax))|((with_reducible refine M1 (l7 _) ?_ hs.has ?_ ?_);(· kernel_rfl);all_goals (intro _ w X ax;replace hs:=hs.trans ax))|(refine qr ?_;intro wa hk;(exact(congrArg B (FK false rfl (by clear FK;grind [fb.may]))).symm))|((with_reducible refine fB ((xs).length-(i+1)) ?_ ?_);omega;exact⟨i+1,by simp,rfl,by omega,hs,by rw[cj,hx];simp only[zy,aD,bm,List.map_nil];(first|exact Own.since ho aQ|exact Own.since (Own.since ho aQ) aQ),by rw[hw];clear FK;grind [fb.may]⟩)
 ·rw[hd] at hw;rw[az dB] at ho;repeat' first|refine aJ ?_;intros|(refine qr ?_;intro wa hk;(rename_i h;simp[H7,hw,h]))|(refine qk (Hg  (Own.sl ho)) hs ?_ ?_<;>intro _ w X hs)
theorem TC (ha:Sl w X 4 a (xs.map KV.l)) (hb:xs.length<=2^40):
  Ct pg 217 #[a] w X nX λv _ _=>v=B (Mh xs):=by
 intro w0 hk;replace ha:=ha.mv hk.cr;have kG:=ha.gO;refine RF.1 λhs=>?_;repeat' refine ak ?_;intros
 refine gz (λn a b w X=> ∃i:Nat,a=I i/\n=xs.length-i/\i<=xs.length/\ai (bK w0) w0 X w/\Own w X w0.heap.size 9 1 b (((xs.take i).map (·.key)).map S1)/\xs.all (·.val.may)=(xs.drop i).all (·.val.may)) xs.length ⟨0,rfl,rfl,aq _,hs,Own.nil _ _ _ _ _,by simp⟩ ?_;rintro n a b w X ⟨i,rfl,rfl,hi,hs,ho,hw⟩;rcases dA (xs) i with⟨cB,x,hx,hd⟩|⟨dB,hd⟩
 ·rw[hd,iV] at hw;have FK:x.val.may=false->Mh xs=false:=λh=>by simp[Mh,hw,h]
  repeat' first|refine aJ ?_;intros|((with_reducible apply MO);(case own=>first|assumption|exact Own.since aQ aQ);(case hs=>assumption);(case h0=>first|exact λ_ h=>h|exact gf.has);(case he=>kernel_rfl);(case hk=>rfl);(case ho=>first|rfl|assumption);(case hb=>(simp only[ah,aB,aa,aK,br];omega));(case hl=>(simp only[ah,aB,aa,aK,br];omega));intro acc w X ax ho hc dh;replace hs:=ax)|((with_reducible refine M1 (l7 _) ?_ hs.has ?_ ?_);(· kernel_rfl);all_goals (intro _ w X ax;replace hs:=hs.trans ax))|(refine qr ?_;intro wa hk;(exact(congrArg B (FK aQ)).symm))|((with_reducible refine fB ((xs).length-(i+1)) ?_ ?_);omega;exact⟨i+1,by simp,rfl,by omega,hs,by rw[cj,hx];simp only[zy,aD,bm,List.map_nil];exact Own.since ho aQ,by rw[hw];clear FK;simp[*]⟩)
 ·rw[hd] at hw;rw[az dB] at ho;repeat' first|refine aJ ?_;intros|(refine qr ?_;intro wa hk;(rename_i h;simp[Mh,hw,h]))|(refine qk (Hg  (Own.sl ho)) hs ?_ ?_<;>intro _ w X hs)
def Nd (l:List eI):Bool:=l.all eI.may&&decide ((l.length:Int)<=12)
theorem aaq {xs:List eI} (ha:Sl w X 4 a (xs.map eI.l)):
  Ct pg 287 #[a] w X nX λv _ _=>v=B (Nd xs):=by
 intro w0 hk;replace ha:=ha.mv hk.cr;have kG:=ha.gO;refine VL.1 λhs=>?_;repeat' refine ak ?_;intros
 refine fp (λn a w X=> ∃i:Nat,a=I (i:Nat)/\n=(xs).length-i/\i<=(xs).length/\ai (bK w0) w0 X w/\xs.all eI.may=(xs.drop i).all eI.may) (xs).length ⟨0,rfl,rfl,aq _,hs,by simp⟩ ?_;rintro n a w X ⟨i,rfl,rfl,hi,hs,hw⟩;rcases dA (xs) i with⟨cB,x,hx,hd⟩|⟨dB,hd⟩
 ·rw[hd,iV] at hw;repeat' first|refine aJ ?_;intros|(refine kh (vT _) hs ?_ ?_<;>intro _ w X hs)|(refine qr ?_;intro wa hk;(simp[Nd,hw, *]))|((with_reducible refine eP ((xs).length-(i+1)) ?_ ?_);omega;exact⟨i+1,by simp,rfl,by omega,hs,by rw[hw];simp[*]⟩)
 ·rw[hd] at hw;repeat' first|refine aJ ?_;intros|refine cQ ?_ ?_<;>intros|(refine qr ?_;intro wa hk;(simp_all [Nd]))
def codeOk (c:Int) (aar:Bool) (l:List eI):Bool:=if c=0 then aar&&decide (l=[])else decide (c>0)&&decide (c<=25)&&Nd l
theorem abG {c:Int} {aar:Bool} {xs:List eI} (ha:Sl w X 4 a (xs.map eI.l)):
  Ct pg 215 #[I c,B aar,a] w X nX λv _ _=>v=B (codeOk c aar xs):=by
 intro w0 hk;replace ha:=ha.mv hk.cr;have kG:=ha.gO;refine Zw.1 λhs=>?_;cases aar<;>
 repeat' first|refine ak ?_;intros|refine cQ ?_ ?_<;>intros|with_reducible apply cD|(refine qr ?_;intro wa hk;(simp_all [codeOk]<;>omega))|(refine qk (aaq  qA) hs ?_ ?_<;>intro _ w X hs)
def Nf (l:List Int) (n:Int):Bool:=l.any λx=>decide (x=n)
theorem ae3 {xs:List Int} (ha:Sl w X 1 a (xs.map I1)):
  Ct pg 219 #[a,I z] w X nX λv _ _=>v=B (Nf xs z):=by
 intro w0 hk;replace ha:=ha.mv hk.cr;have kG:=ha.gO;refine abi.1 λhs=>?_;repeat' refine ak ?_;intros
 refine fp (λn a w X=> ∃i:Nat,a=I (i:Nat)/\n=(xs).length-i/\i<=(xs).length/\ai (bK w0) w0 X w/\Nf xs z=Nf (xs.drop i) z) (xs).length ⟨0,rfl,rfl,aq _,hs,by simp⟩ ?_;rintro n a w X ⟨i,rfl,rfl,hi,hs,hw⟩;rcases dA (xs) i with⟨cB,x,hx,hd⟩|⟨dB,hd⟩
 ·rw[hd] at hw;repeat' first|refine aJ ?_;intros|refine cQ ?_ ?_<;>intros|(refine qr ?_;intro wa hk;(rw[hw];simp[Nf, *]))|((with_reducible refine eP ((xs).length-(i+1)) ?_ ?_);omega;exact⟨i+1,by simp,rfl,by omega,hs,by rw[hw];simp[Nf, *]⟩)
 ·rw[hd] at hw;repeat' first|refine aJ ?_;intros|(refine qr ?_;intro wa hk;(rw[hw];rfl))
def Ng (l:List Rec):Bool:=l.all (λr=>decide (r.fJ=0))&&decide ((l.length:Int)<=8)
theorem aas {xs:List Rec} (ha:fg w X 29 a Rec.rd xs) (mK: ∀r∈xs,r.small) (lh: ∀r∈xs,r.err=0->(ga r).length<=2^33):
  Ct pg 150 #[a] w X nX λv _ _=>v=B (Ng xs):=by
 intro w0 hk;replace ha:=fg.mv ha Rec.mv hk.cr;have kG:=ha.len;refine VE.1 λhs=>?_;repeat' refine ak ?_;intros
 refine fp (λn a w X=> ∃i:Nat,a=I (i:Nat)/\n=(xs).length-i/\i<=(xs).length/\ai (bK w0) w0 X w/\xs.all (λr=>decide (r.fJ=0))=(xs.drop i).all (λr=>decide (r.fJ=0))) (xs).length ⟨0,rfl,rfl,aq _,hs,by simp⟩ ?_;rintro n a w X ⟨i,rfl,rfl,hi,hs,hw⟩;rcases dA (xs) i with⟨cB,x,hx,hd⟩|⟨dB,hd⟩
 ·rw[hd,iV] at hw;have hxm:=aA hx;repeat' first|refine aJ ?_;intros|((with_reducible apply ab3);assumption;(try (case hz=>rfl));(case hr=>exact qR);(try (case hz=>omega));(case ht=>kernel_rfl);(case hs=>kernel_rfl);intros)
  refine cu (Dq (r:=x) (Rec.at.mv aQ hs.mv) (mK x hxm) (lh x hxm)) kQ hs.has ?_;rintro v wa w2 X2 hq hle gv bB;replace hs:=hs.trans bB;by_cases he:x.fJ=0
  ·rw[if_neg zQ] at hq;obtain⟨vb,rfl,_⟩:=hq;repeat' first|refine aJ ?_;intros|((with_reducible refine eP ((xs).length-(i+1)) ?_ ?_);omega;exact⟨i+1,by simp,rfl,by omega,hs,by rw[hw];simp[he]⟩)
  ·rw[if_pos he] at hq;subst hq;repeat' first|refine aJ ?_;intros|(refine qr ?_;intro wa hk;(simp[Ng,hw,he]))
 ·rw[hd] at hw;repeat' first|refine aJ ?_;intros|refine cQ ?_ ?_<;>intros|(refine qr ?_;intro wa hk;(simp_all [Ng]))
theorem apK {a b:Int} (h:N (.int .i64 (max a b))):aX P X w (kY #[t,t] ty #[.int .i64 a,.int .i64 b]) N:=
 bF (λwa=>by
  simp only[kY,List.foldlM];by_cases hc:b>a
  ·have:max a b=b:=by omega
   simp[rT,hc,this]
  ·have:max a b=a:=by omega
   simp[rT,hc,this]) h
abbrev GI (s:cn):List Value:=[I s.wall,I s.dy,I s.node]
theorem afL {node:Int} {fl:cn} (h1:1<=node) (h2:node<=63) (h3:fl.may=true):Ct pg 83 #[I node,fl.v] w X nX λv wa w'=>
  ∃cb,v= .tuple #[ptr cb 0,I 0]/\aH w' (made wa w') cb (GI { fl with node:=node }) 259:=by
 intro w0 hk;refine aeG.1 λhs=>?_;repeat' refine aJ ?_;intros
 refine rL (pA fl) kQ hs.has λw1 X1 ax=>?_;rw[h3];replace hs:=hs.trans ax;have hz:=hs.kp.size;repeat' first|refine ak ?_;intros|(refine Od hs ?_;intro bx w X gr ax gf hs bw)
 exact bS (gf.trans hs) λwa aI=>⟨bx,rfl,⟨⟨by omega,(bw.kp aI).lt⟩,(bw.kp aI).2⟩⟩
def cn.tt (s:cn) (gM:Int):cn×Int:=
 if max gM 0>281474976710656 then(.zero,15)else if max gM 0>s.wall then(⟨max gM 0,0,s.node⟩,0)else if s.dy>=65535 then(.zero,16)else(⟨s.wall,s.dy+1,s.node⟩,0)
abbrev Ik:Nat:=259
section
variable {c : cn}
theorem ac2 {gM:Int} (h:aH w X cb (GI c) Ik) (hl:c.dy<2^60) (AS: -(2^60)<c.dy):Ct pg 161 #[ptr cb 0,I gM] w X nX λv _ _=>v= .tuple #[(c.tt gM).1.v,I (c.tt gM).2]:=by
 intro w0 hk;replace h:=h.mv hk.cr;unfold cn.tt;refine Ns.1 λhs=>?_;refine apK ?_;generalize max gM 0=p;repeat' first|refine ak ?_;intros|refine cQ ?_ ?_<;>intros|with_reducible apply cD|(refine qr ?_;intro wa hk;(simp[*];try omega))
theorem V7 {t:cn} (h:aH w X cb (GI c) Ik) (ht:t.may=true):
  Ct pg 154 #[ptr cb 0,t.v] w X (· =cb) λv _ w'=>v=I 0/\aH w' (· =cb) cb (GI (c.later ⟨t.wall,t.dy,c.node⟩)) Ik:=by
 intro w0 hk;have hF:FX (· =cb) X w:=λk af=>by subst af;exact⟨h.1,h.lt⟩
 have hT:=hF.ft hk;replace h:=h.mv hk.cr;refine IP.1 λ_=>?_;refine rL (pA t) kQ (λ_ h=>h) λw1 X1 ax=>?_;rw[ht];replace h:=h.since ax;have hs:=ai.fG ax.has;repeat' refine ak ?_;intros
 refine rL (Oo c ⟨t.wall,t.dy,c.node⟩) kQ hs.has λw3 X3 dp=>?_;have h3:=h.since (hs.trans dp);have dU:Ft w0 (· =cb) w3 X3 (· =cb):=⟨hT.s.trans (ax.trans (hs.trans dp)),λk af=>by subst af;exact h3.1,λk af=>.inl af⟩;obtain⟨r,hr⟩: ∃r,r=c.later ⟨t.wall,t.dy,c.node⟩:=⟨_,rfl⟩;rw[<-hr];clear hr;repeat' refine ak ?_;intros
 refine FU (o:=0) h3 zQ kQ sQ rfl rfl dU.s.has λw4 X4 c4 zd=>?_;have fQ:=dU.dX (F':=(· =cb)) c4 (λk af=>af) λk af=>.inl af
 skip
 exact fQ.fin λwa aI=>⟨rfl,(zd.kp aI).own⟩
end
section
variable {kb pb : Nat} {hm : List (BA × List pt)} {pm : List (bE × gw)} {low : cn}
end
def xr (a b:Int):Int:=IntKind.u32.wrap (aC IntKind.u32.bits a^^^aC IntKind.u32.bits b).toNat
def xr8 (a b:Int):Int:=IntKind.u8.wrap (aC IntKind.u8.bits a^^^aC IntKind.u8.bits b).toNat
def an (a b:Int):Int:=IntKind.u32.wrap (aC IntKind.u32.bits a&&& aC IntKind.u32.bits b).toNat
def sr (a n:Int):Int:=a.fdiv (2^min n.toNat IntKind.u32.bits)
def ng (a:Int):Int:=IntKind.u32.wrap (-a)
def nt (a:Int):Int:=xr IntKind.u32.max a
def stp (c:Int):Int:=xr (sr c 1) (an 2197175160 (ng (an c 1)))
def it:Nat->Int->Int
 |0,c=>c
 |n+1,c=>stp (it n c)
def DP (i:Int):Int:=it 8 (IntKind.u32.wrap i)
def ae4 (l:List Nat) (c:Int):Int:=l.foldl (λ(c:Int) (x:Nat)=>it 8 (xr c (IntKind.u32.wrap x))) c
def aat (l:List Nat) (c:Int):Int:=l.foldl (λ(c:Int) (x:Nat)=>xr (sr c 8) (DP (xr8 (IntKind.u8.wrap c) x))) c
def K5 (l:List Nat):Int:=nt (if l.length<64 then ae4 l 4294967295 else aat l 4294967295)
def CO (l:List Nat):Nat:=(K5 l).toNat
def tW (n:Nat):List Nat:=[n % 256,n/256 % 256,n/65536 % 256,n/16777216 % 256]
def dm (p:List Nat):List Nat:=tW p.length++tW (CO (tW p.length))++p++tW (CO p)
theorem wrap32 (n:Int):IntKind.u32.wrap n=n % 4294967296:=by simp[IntKind.wrap,mB,jT]
theorem aji (a b:Int):0<=xr a b/\xr a b<4294967296:=by unfold xr;rw[wrap32];omega
theorem agL (a b:Int):0<=xr8 a b/\xr8 a b<256:=by unfold xr8;rw[MM];omega
def R9 (l:List Nat):0<=K5 l/\K5 l<4294967296:=aji _ _
theorem QC (l:List Nat):((CO l:Nat):Int)=K5 l:=yN (R9 l).1
theorem afw (l:List Nat):CO l<4294967296:=by have:=QC l;have:=R9 l;omega
theorem MN (n:Nat):(tW n).length=4:=rfl
theorem qG (p:List Nat):(dm p).length=p.length+12:=by simp only[dm,aa,MN];omega
section
variable {m : Bool} {a b : Int}
def ae5 (h:N (.int .u32 (xr a b))):aX P X w (binOp .xor t (.int .u32 a) (.int .u32 b)) N:=Si h
def apL (h:N (.int .u8 (xr8 a b))):aX P X w (binOp .xor t (.int .u8 a) (.int .u8 b)) N:=Si h
def aof (h:N (.int .u32 (an a b))):aX P X w (binOp .and t (.int .u32 a) (.int .u32 b)) N:=MH h
def ajj (hb: ¬b<0) (h:N (.int .u32 (sr a b))):aX P X w (binOp .shr t (.int .u32 a) (.int .u64 b)) N:=Ef hb h
theorem aog (h:N (.int .u32 (ng a))):aX P X w (bp .neg (.int .u32 a)) N:=bF (λwa=>by simp[bp,ng,Op.intArith]) h
theorem aoh (h:N (.int .u32 (nt a))):aX P X w (bp .xor (.int .u32 a)) N:=bF (λwa=>by simp[bp,nt,xr,Op.intBits,jT]) h
theorem acs {k:IntKind} (hz:z=i) (hi:i<P.arrayLen t) (ht:P.underlying t=some (.array (P.arrayLen t) (P.elem t))) (hs:(P.info? (P.elem t)).map (·.size)=some 1) (h:N (ptr g (o+i))):
  aX P X w (Instr.indexAt t (ptr g o) (.int k z)) N:=by
 subst hz;refine bF (v:=ptr g (o+i)) (λwa=>?_) h
 show(Instr.indexAt t (.pointer (some ⟨g,o,none⟩)) _).run P wa=_
 rw[run_indexAt_array (h:=ht),if_pos zQ];cases hq:P.info? (P.elem t)with
 |none=>simp[hq] at hs
 |some inf=>
  have:inf.size=1:=by simpa [hq] using hs
  simp[sizeOf,typeInfo,hq,this,zN]
end
abbrev U4 (x:Int):Value:=.int .u32 x
theorem V8:Ct pg 324 #[] w X nX λv wa w'=>v= .agg ((dx 256).map λi:Nat=>U4 (DP (i:Int))).toArray:=by
 intro w0 hk;refine Tj.1 λhs=>?_;have hT:Ft w0 nX w0 (bK w0) nX:=Ft.init λ_ h=>h.elim;refine MU (l:=gH 256 (U4 0)) hs.has kQ λb w1 X1 hb ax hr=>?_;have dW:Ft w0 nX w1 X1 (λk=>k=b):=(hT.since ax).more λk af=>by subst af;exact .inr ⟨hr.1,hb⟩
 refine AW (λn a _ _ w X=> ∃i:Nat,a=I (i:Nat)/\n=256-i/\i<=256/\Ft w0 nX w X (λk=>k=b)/\aH w X b (((dx i).map λi:Nat=>U4 (DP (i:Int)))++gH (256-i) (U4 0)) 447) 256 ⟨0,rfl,rfl,aq _,dW,by simpa using hr⟩ ?_;rintro n a _ _ w X ⟨i,rfl,rfl,hi,cY,jD⟩;repeat' first|refine ak ?_;intros|refine cQ ?_ ?_<;>intros
 ·refine gz (λn a c w' X'=> ∃j:Nat,a=I (j:Nat)/\c=U4 (it j (IntKind.u32.wrap i))/\n=8-j/\j<=8/\w'=w/\X'=X) 8 ⟨0,rfl,rfl,rfl,aq _,rfl,rfl⟩ ?_;rintro n a c _ _ ⟨j,rfl,rfl,rfl,hj,rfl,rfl⟩;repeat' first|refine ak ?_;intros|refine cQ ?_ ?_<;>intros|(with_reducible apply ajj);omega|(with_reducible apply aof)|(with_reducible apply aog)|(with_reducible apply ae5)
  ·exact fB (8-(j+1)) zQ ⟨j+1,by simp,rfl,rfl,by omega,rfl,rfl⟩
  ·have hj8:j=8:=by omega
   subst hj8;have T9:pg.arrayLen 447=256:=by kernel_rfl
   refine acs rfl (by rw[T9];omega) kQ kQ ?_;rw[fe];refine D4 jD kQ oQ rfl rfl cY.s.has λw3 X3 c DD=>?_;have dU:Ft w0 nX w3 X3 (λk=>k=b):=cY.dX c (λk af=>af) λk af=>.inl af;repeat' refine ak ?_;intros
   refine zi (256-(i+1)) zQ ⟨i+1,by simp,rfl,by omega,dU,?_⟩;have e:dr (((dx i).map λi:Nat=>U4 (DP (i:Int)))++gH (256-i) (U4 0)) i (bf (U4 (it 8 (IntKind.u32.wrap (i:Int))))).toList=((dx (i+1)).map λi:Nat=>U4 (DP (i:Int)))++gH (256-(i+1)) (U4 0):=by
    have hl:((dx i).map λi:Nat=>U4 (DP (i:Int))).length=i:=by simp
    rw[show 256-i=(256-(i+1))+1 by omega,List.replicate_succ];unfold dr;rw[ig hl,List.range_succ,aD,List.map_singleton,ao,ao];have hd: ∀r:List Value,(((dx i).map λi:Nat=>U4 (DP (i:Int)))++U4 0::r).drop (i+1)=r:=λr=>by
     rw[<-List.drop_drop,List.drop_left' hl];rfl
    have h1:(bf (U4 (it 8 (IntKind.u32.wrap (i:Int))))).toList=[U4 (DP (i:Int))]:=rfl;rw[h1,cd,hd]
   rw[<-e];exact DD
 ·have hi6:i=256:=by omega
  subst hi6;have DD:aH w X b ((dx 256).map λi:Nat=>U4 (DP (i:Int))) 447:=by simpa using jD
  have hl:((dx 256).map λi:Nat=>U4 (DP (i:Int))).length=256:=by simp
  generalize hL:((dx 256).map λi:Nat=>U4 (DP (i:Int)))=L at DD hl⊢;have IB:L.all aL.one=true:=by rw[<-hL];simp;intros;rfl
  refine ac4 DD.cells (Mv.refl _ _) kQ hl ?_;refine Ym ?_;refine dJ.2 ⟨by simpa [bf] using hl,dJ.2 ⟨by simpa [bf] using IB,?_⟩⟩;refine aga ?_;refine dJ.2 ⟨rfl,?_⟩;rw[List.drop_zero,az zQ];exact cY.fin λwa aI=>rfl
theorem Vm {β:Type} (f:β->Nat->β) (l:List Nat) {x:Nat} (c:β) (h:l[i]? =some x):(l.take (i+1)).foldl f c=f ((l.take i).foldl f c) x:=by
 rw[cj,h];simp
theorem Cq {l:List Nat} (h:Sl w X 1 vb (l.map U1)):Ct pg 254 #[vb] w X nX λv wa w'=>v=U4 (K5 l):=by
 intro w0 hk;replace h:=h.mv hk.cr;have hlen:=h.gO;refine ZA.1 λhs=>?_;repeat' first|refine ak ?_;intros|refine cQ ?_ ?_<;>intros
 ·have h64:l.length<64:=by omega
  refine AW (λn a _ c w X=> ∃i:Nat,a=I (i:Nat)/\c=U4 (ae4 (l.take i) 4294967295)/\n=l.length-i/\i<=l.length/\ai (bK w0) w0 X w) l.length ⟨0,rfl,rfl,rfl,aq _,hs⟩ ?_;clear hs;rintro n a _ _ w X ⟨i,rfl,rfl,rfl,hi,hs⟩;rcases dA l i with⟨cB,x,hx,hd⟩|⟨dB,hd⟩
  ·repeat' first|refine aJ ?_;intros|(with_reducible apply ae5)
   refine gz (λn a c w' X'=> ∃j:Nat,a=I (j:Nat)/\c=U4 (it j (xr (ae4 (l.take i) 4294967295) (IntKind.u32.wrap x)))/\n=8-j/\j<=8/\w'=w/\X'=X) 8 ⟨0,rfl,rfl,rfl,aq _,rfl,rfl⟩ ?_;rintro n a c _ _ ⟨j,rfl,rfl,rfl,hj,rfl,rfl⟩;repeat' first|refine ak ?_;intros|refine cQ ?_ ?_<;>intros|(with_reducible apply ajj);omega|(with_reducible apply aof)|(with_reducible apply aog)|(with_reducible apply ae5)
   ·exact fB (8-(j+1)) zQ ⟨j+1,by simp,rfl,rfl,by omega,rfl,rfl⟩
   ·have hj8:j=8:=by omega
    subst hj8;refine zi (l.length-(i+1)) zQ ⟨i+1,by simp,?_,rfl,by omega,hs⟩;unfold ae4;rw[Vm _ l _ hx]
  ·have pK:i=l.length:=by omega
   subst pK;repeat' first|refine aJ ?_;intros|(with_reducible apply aoh)|(refine qr ?_;intro wa hk;(rw[K5,if_pos h64,jY]))
 ·have h64: ¬l.length<64:=by omega
  refine cu V8 kQ hs.has ?_;rintro _ wa w1 X1 rfl hle gv ax;replace hs:=hs.trans ax;refine MU (l:=gH 256 (U4 0)) hs.has kQ λb w2 X2 hb bB hr=>?_;have rJ:=hs.trans bB;have hT:Ft w0 nX w2 X2 (λk=>k=b):=((Ft.init (w:=w0) (F0:=nX) λ_ h=>h.elim).since rJ).more λk af=>by subst af;exact .inr ⟨hr.1,by have:=hs.kp.size;omega⟩
  have hl:((dx 256).map λi:Nat=>U4 (DP (i:Int))).length=256:=by simp
  have Df: ∀i:Nat,i<256->((dx 256).map λi:Nat=>U4 (DP (i:Int)))[i]? =some (U4 (DP (i:Int))):=λi hi=>by simp[hi]
  have IB:((dx 256).map λi:Nat=>U4 (DP (i:Int))).all aL.one=true:=by simp;intros;rfl
  generalize ((dx 256).map λi:Nat=>U4 (DP (i:Int)))=L at hl Df IB⊢;refine D4 hr kQ sQ (by simpa [bf] using hl) (by simpa [bf] using IB) hT.s.has λw3 X3 c DD=>?_;have dU:Ft w0 nX w3 X3 (λk=>k=b):=hT.dX c (λk af=>af) λk af=>.inl af;have e:dr (gH 256 (U4 0)) 0 (bf (.agg L.toArray)).toList=L:=by
   unfold dr;simp[bf,hl]
  rw[e] at DD;have dp:ai (bK w0) w0 X3 w3:=⟨⟨dU.s.kp.os,dU.s.kp.tape,dU.s.kp.output,dU.s.kp.size,λk af=>dU.s.kp.block k ⟨af,λh=>h.elim⟩⟩,λk af=>dU.s.sub k ⟨af,λh=>h.elim⟩,dU.s.has⟩;clear hs rJ;have hs:=dp;repeat' refine ak ?_;intros
  refine gz (λn a c w X=> ∃i:Nat,a=I (i:Nat)/\c=U4 (aat (l.take i) 4294967295)/\n=l.length-i/\i<=l.length/\w=w3/\X=X3) l.length ⟨0,rfl,rfl,rfl,aq _,rfl,rfl⟩ ?_;rintro n a _ _ _ ⟨i,rfl,rfl,rfl,hi,rfl,rfl⟩;rcases dA l i with⟨cB,x,hx,hd⟩|⟨dB,hd⟩
  ·repeat' first|refine aJ ?_;intros|(with_reducible apply ajj);omega|(with_reducible apply apL)
   have hrg:=agL (IntKind.u8.wrap (aat (l.take i) 4294967295)) x;obtain⟨q,hq⟩: ∃q:Nat,xr8 (IntKind.u8.wrap (aat (l.take i) 4294967295)) x=(q:Int):=⟨_,(yN hrg.1).symm⟩;have T9:pg.arrayLen 447=256:=by kernel_rfl
   refine acs hq (by rw[T9];omega) kQ kQ ?_;rw[fe];have Ua:=DD.cells.Wp (Df q zQ);rw[fe] at Ua;repeat' first|refine ak ?_;intros|(with_reducible apply ae5)
   refine fB (l.length-(i+1)) zQ ⟨i+1,by simp,?_,rfl,by omega,rfl,rfl⟩;unfold aat;rw[Vm _ l _ hx,<-hq];rfl
  ·have pK:i=l.length:=by omega
   subst pK;repeat' first|refine aJ ?_;intros|(with_reducible apply aoh)|(refine qr ?_;intro wa hk;(rw[K5,if_neg h64,jY]))
theorem ae6 {u:Nat} (k:Nat) (hk:k<=32) (h:N (.int .u32 ((u/2^k:Nat):Int))):aX P X w (binOp .shr t (.int .u32 (u:Int)) (.int .u64 (k:Int))) N:=by
 refine Ef zQ ?_;have e:((u:Int)).fdiv (2^min ((k:Int)).toNat IntKind.u32.bits)=((u/2^k:Nat):Int):=by
  rw[show min ((k:Int)).toNat IntKind.u32.bits=k by simp[mB];omega];rw[Int.fdiv_eq_ediv_of_nonneg _ (by exact_mod_cast aq _)]
  norm_cast
 rw[e];exact h
theorem apM (a b c d:Int):Instr.fill (λi=>some (i*1,1)) ((Array.range (4*1)).map ((Value.int .u8 0).cells[· % (Value.int .u8 0).cells.size]!)) [(0,.int .u8 a),(1,.int .u8 b),(2,.int .u8 c),(3,.int .u8 d)]=some #[.int .u8 a,.int .u8 b,.int .u8 c,.int .u8 d]:=by kernel_rfl
theorem Hh {n:Nat} (h:Ow w F 5 1 v (bs.map U1)) (hF:FX F X w) (hl:bs.length<=2^40):
  Ct pg 279 #[v,U4 n] w X F λr wa w'=> ∃F',(∀k,F' k->F k\/made wa w' k)/\Ow w' F' 5 1 r ((bs++tW n).map U1):=by
 intro w0 hk;replace h:=h.mv (hF.mv hk);have hT:=hF.ft hk;refine ZE.1 λ_=>?_;refine RR kQ kQ ?_;refine ae6 8 zQ ?_;refine RR kQ kQ ?_;refine ae6 16 zQ ?_;refine RR kQ kQ ?_;refine ae6 24 zQ ?_;refine RR kQ kQ ?_;refine Wn (bytes:=1) (rows:=(tW n).map U1) #[.int .u8 (n % 256:Nat),.int .u8 (n/256 % 256:Nat),.int .u8 (n/65536 % 256:Nat),.int .u8 (n/16777216 % 256:Nat)] (.int .u8 0) hT.s.has kQ kQ dQ dQ (apM _ _ _ _) sQ rfl rfl λs w1 X1 ax ho=>?_;have dW:=hT.since ax;refine Rs kQ ax.has ((h.mv (ax.gV hT.bA)).mono dW.bA) ho.sl (by intro r hr u hu;obtain⟨x,_,rfl⟩:=List.mem_map.1 hr;simp only[U1,aw] at hu;subst hu;rfl) (by simp[tW];omega) (by simp[tW];omega) λv' w2 X2 c kq dh=>?_;have hF2: ∀g,v'.ownBlock=some g->F g\/(X2 g/\w1.heap.size<=g):=λg hg=>by
  rcases dh with e|⟨g',e,dB⟩
  ·exact .inl (h.bA (e▸hg)).1
  ·rw[hg] at e;have:g=g':=Option.some.inj e;subst this;exact .inr ⟨(kq.bA hg).1,dB⟩
 have cY:Ft w0 F w2 X2 (λk=>F k\/(X2 k/\w1.heap.size<=k)):=dW.dX c (λk af=>(h.bA af).1) λk af=>af;refine cY.fin λwa aI=>⟨_,cY.ju aI λ_ h=>h,?_⟩;rw[aD];exact kq.tight.mv λk af AS=>⟨hF2 k af,aI.block k (kq.bA af).1⟩
def Ft.ajk {wa:World} {F':XS} (h:Ft w0 nX w' X' (λk=>F k\/made wa w' k)) (ho:Ow w' F' e k v rows) (CU: ∀k,F' k->F k\/made wa w' k):Ow w' (DK w0 X') e k v rows:=
 ho.mono λk hk=>⟨h.bA k (CU k hk),(h.v k (CU k hk)).elim (λh=>h.elim) id⟩
theorem V9 {p:List Nat} (h:Sl w X 1 vp (p.map U1)):Ct pg 199 #[vp] w X nX λv wa w'=>
  if 262144<p.length then v= .tuple #[.slice none 0 0,I 2] else∃vb,v= .tuple #[vb,I 0]/\Ow w' (made wa w') 5 1 vb ((dm p).map U1):=by
 intro w0 hk;replace h:=h.mv hk.cr;have hlen:=h.gO;refine Te.1 λhs=>?_;repeat' first|refine ak ?_;intros|refine cQ ?_ ?_<;>intros|(refine qr ?_;intro wa hk;(rw[if_pos zQ]))
 have hn: ¬262144<p.length:=by omega
 refine agh (e:=5) (k:=1) (c:=p.length+12) (bytes:=1) hs.has kQ sQ zQ zQ zQ λv0 w1 X1 ax ho=>?_;have hT:Ft w0 nX w1 X1 (DK w0 X1):=((Ft.init (w:=w0) (F0:=nX) λ_ h=>h.elim).since ax).Pb;have hO:Ow w1 (DK w0 X1) 5 1 v0 (([]:List Nat).map U1):=(ho.ow.tight).mono λk af=>⟨(ho.ow.bA af).1,(ho.ge af).1⟩;have vJ:IntKind.u32.wrap (p.length:Int)=(p.length:Nat):=by rw[wrap32];omega
 repeat' refine ak ?_;intros
 rw[vJ];refine hT.call (Hh hO (hT.fx λ_ h=>h) sQ) kQ (λ_ h=>h) λv1 xu w2 X2 hq hle gv cY hc=>?_;obtain⟨F2,hF2,hO2⟩:=hq;have hO2:=Ft.ajk cY hO2 hF2;replace cY:=cY.Pb;rw[List.nil_append] at hO2;refine cu (Cq (hO2.sl.mono cY.bA)) kQ cY.s.has ?_;rintro _ ze w3 X3 rfl qB mz dp;have hO3:Ow w3 (DK w0 X3) 5 1 v1 ((tW p.length).map U1):=(hO2.mv (dp.gV cY.bA)).mono λk af=>⟨dp.sub k af.1,af.2⟩;replace cY:=(cY.since dp).Pb;rw[<-QC];refine cY.call (Hh hO3 (cY.fx λ_ h=>h) (by simp[tW])) kQ (λ_ h=>h) λv4 zf w4 X4 hq hle gv fQ hc=>?_;obtain⟨F4,hF4,hO4⟩:=hq;have hO4:=Ft.ajk fQ hO4 hF4;replace fQ:=fQ.Pb;have hp4:Sl w4 X4 1 vp (p.map U1):=h.mv fQ.C8.mv;refine api fQ hO4 kQ hp4 (by intro r hr u hu;obtain⟨x,_,rfl⟩:=List.mem_map.1 hr;simp only[U1,aw] at hu;subst hu;rfl) (by simp[tW];omega) (by simp[tW];omega) λv5 w5 X5 iL hO5 EG _=>?_;refine cu (Cq (h.mv iL.C8.mv)) kQ iL.s.has ?_;rintro _ wa6 w6 X6 rfl XU Lb tF;have hO6:Ow w6 (DK w0 X6) 5 1 v5 ((tW p.length++tW (CO (tW p.length))++p).map U1):=by
  rw[aD];exact(hO5.mv (tF.gV iL.bA)).mono λk af=>⟨tF.sub k af.1,af.2⟩
 replace iL:=(iL.since tF).Pb;rw[<-QC];refine iL.call (Hh hO6 (iL.fx λ_ h=>h) (by simp[tW];omega)) kQ (λ_ h=>h) λv7 Qp w7 X7 hq hle gv CV hc=>?_;obtain⟨F7,hF7,hO7⟩:=hq
 skip
 refine CV.C8|>λAr=>bS Ar λwa aI=>?_;rw[if_neg hn];refine⟨v7,rfl,?_⟩;exact(Ft.ajk CV hO7 hF7).mv λk af hl=>⟨⟨af.2,av hl aI.size⟩,aI.block k af.1⟩
end Go.Proofs.YtgfijddlkhkopaaGreat