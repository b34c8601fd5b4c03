/- Part 7 of the proof. -/
import Derived.WalkKit
import Derived.Test.YtgfijddlkhkopaaGreatW6
set_option linter.all false
open Nat renaming le_trans → ad, zero_le → aq, le_refl → au, lt_of_lt_of_le → aw, zero_add → fg
open List renaming length_append → aa, append_assoc → ao, length_map → af, take_of_length_le → aA, range → dA, length_take → aD, length_singleton → bR, filter_cons → eH, map_append → aC, length_cons → aL, take_add_one → bT, replicate → gF, mem_cons_of_mem → bX, map_map → bU, length → ba, foldl_cons → iB, map_cons → bB, mem_singleton → av, all_cons → iU, length_nil → br, mem_of_mem_take → dN, reverse_cons → uC, length_reverse → sG, foldl_append → Az, toList_toArray → cR, flatten_cons → dd, mem_of_getElem? → ay, not_mem_nil → dq, getElem?_append_right → cZ, flatten_append → dW, take_append_drop → gY, take_left' → ig, take_length → jW
open BitVec renaming ofInt → aF
open Go.Value renaming cells → bf, slice → tj, tuple → dr
open Go.Op renaming unary → bH
open Option.some renaming injEq → aj
open Go.Exit renaming inBlock → vI
open Go.Fence renaming wide → gp
open Go.IntKind renaming signed → jQ, bits → mF
open Go.Instr renaming findNow → ko, checkKey → gS, mapUpdate → cK
open Go.WideElems renaming rg → mK, rd → rR
open Function renaming comp_def → jI
open Int renaming mul_lt_mul_of_pos_right → sx, toNat_of_nonneg → yP
open Option renaming getD_some → Bn, toList_some → zy
open Go.Builtin renaming max_ → kV, max2 → rS
namespace Go.Proofs.YtgfijddlkhkopaaGreat
open Go.Proofs.Tryz renaming prog → pg
open Go.aK Go.RowKit Go.Sort Ieee
set_option maxRecDepth 100000
set_option maxHeartbeats 4000000
def Je (t:Nat):Nat:=(t % 2)*2^63+9218868437227405312+1+(t/2) % (2^52-1)
def UR (op:BinOp) (x y:Nat) (w:World):Nat:=match floatBits op .f64 x y with|some r=>r|none=>Je (w.tape w.drawn (.nanBits .f64 x y))
def US (op:BinOp) (x y:Nat) (w:World):World:=match floatBits op .f64 x y with|some _=>w|none=> { w with drawn:=w.drawn+1 }
def Gh (op:BinOp) (x y:Nat):Nat:=match floatBits op .f64 x y with|some r=>canon r|none=>9221120237041090560
theorem ak5 (f:Format) (n:Nat) (h:f.infRung<n % f.signWeight) (h2:f.binade<=f.infRung): ∃s q,f.read n= .nan s q:=by
 unfold Format.read;refine⟨n/f.signWeight % 2==1,n % f.signWeight-f.infRung,?_⟩
 grind
theorem aiW (t:Nat): ∃s q,(FloatKind.f64.format).read (Je t)= .nan s q:=by
 have e1:FloatKind.f64.format.signWeight=9223372036854775808:=by decide
 have e2:FloatKind.f64.format.binade=4503599627370496:=by decide
 have e3:FloatKind.f64.format.infRung=9218868437227405312:=by decide
 refine ak5 _ _ ?_ ?_
 ·have e:Je t=9223372036854775808*(t % 2)+(9218868437227405312+1+t/2 % 4503599627370495):=by
   show t % 2*9223372036854775808+9218868437227405312+1+t/2 % 4503599627370495=_
   omega
  rw[e1,e3,e,Nat.mul_add_mod,Nat.mod_eq_of_lt zQ];omega
 omega
theorem ago (t:Nat):canon (Je t)=9221120237041090560:=by
 have h:pA (Je t) (Je t)=false:=by
  obtain⟨s,q,e⟩:=aiW t;unfold pA Format.order;rw[e];rfl
 unfold canon;rw[h];rfl
theorem Gi (op:BinOp) (x y:Nat) (w:World):canon (UR op x y w)=Gh op x y:=by grind [UR,Gh,ago]
theorem M6 (op:BinOp) (x y:Nat) (w:World):Ext w (US op x y w):=by
 unfold US;split
 ·exact⟨rfl,rfl,rfl,au _,λ_ _ _=>rfl⟩
 ·exact⟨rfl,rfl,rfl,au _,λ_ _ _=>rfl⟩
variable {w : World} {t : TypeId} {P : Program}
theorem Gj (op:BinOp) (h:op= .add\/op= .sub\/op= .mul\/op= .quo) (x y:Nat):(binOp op t (.float .f64 x) (.float .f64 y)).run P w= .ok (.float .f64 (UR op x y w)) (US op x y w):=by
 unfold UR US;cases hf:floatBits op .f64 x y with
 |some r=>grind [run_float_arith]
 |none=>
  unfold floatBits at hf;rcases h with rfl|rfl|rfl|rfl<;>simp only at hf<;>simp[binOp,Op.floatArith,hf,choose,Sem.run,Question.forced,Question.cut,Je]
@[go_sem] theorem ary (x y:Nat):(binOp .add t (.float .f64 x) (.float .f64 y)).run P w= .ok (.float .f64 (UR .add x y w)) (US .add x y w):=Gj _ sQ x y
@[go_sem] theorem arz (x y:Nat):(binOp .sub t (.float .f64 x) (.float .f64 y)).run P w= .ok (.float .f64 (UR .sub x y w)) (US .sub x y w):=Gj _ sQ x y
@[go_sem] theorem arA (x y:Nat):(binOp .mul t (.float .f64 x) (.float .f64 y)).run P w= .ok (.float .f64 (UR .mul x y w)) (US .mul x y w):=Gj _ sQ x y
@[go_sem] theorem arB (x y:Nat):(binOp .quo t (.float .f64 x) (.float .f64 y)).run P w= .ok (.float .f64 (UR .quo x y w)) (US .quo x y w):=Gj _ sQ x y
theorem agp (a b:Nat):Pure pg 350 #[.float .f64 a,.float .f64 b] (.float .f64 (Gh .add a b)):=by
 intro W
 go_enter Tryz.func350,Tryz.ntmps350
 go_wp2_with (go_at_call 347;refine(rn _ _).mono ?_;rintro e w1 ⟨rfl,x1⟩)
 all_goals (try simp only[vI,Exit.then])
 refine bodyPost_ret (v:=.float .f64 (Gh .add a b)) ?_ rfl ⟨rfl,(M6 _ _ _ _).trans x1⟩;rw[results_tmp (t:=4) (by rfl)];simp[Gi]
theorem agq (a b:Nat):Pure pg 351 #[.float .f64 a,.float .f64 b] (.float .f64 (Gh .sub a b)):=by
 intro W
 go_enter Tryz.func351,Tryz.ntmps351
 go_wp2_with (go_at_call 347;refine(rn _ _).mono ?_;rintro e w1 ⟨rfl,x1⟩)
 all_goals (try simp only[vI,Exit.then])
 refine bodyPost_ret (v:=.float .f64 (Gh .sub a b)) ?_ rfl ⟨rfl,(M6 _ _ _ _).trans x1⟩;rw[results_tmp (t:=4) (by rfl)];simp[Gi]
theorem agr (a b:Nat):Pure pg 352 #[.float .f64 a,.float .f64 b] (.float .f64 (Gh .mul a b)):=by
 intro W
 go_enter Tryz.func352,Tryz.ntmps352
 go_wp2_with (go_at_call 347;refine(rn _ _).mono ?_;rintro e w1 ⟨rfl,x1⟩)
 all_goals (try simp only[vI,Exit.then])
 refine bodyPost_ret (v:=.float .f64 (Gh .mul a b)) ?_ rfl ⟨rfl,(M6 _ _ _ _).trans x1⟩;rw[results_tmp (t:=4) (by rfl)];simp[Gi]
theorem ags (a b:Nat):Pure pg 353 #[.float .f64 a,.float .f64 b] (.float .f64 (Gh .quo a b)):=by
 intro W
 go_enter Tryz.func353,Tryz.ntmps353
 go_wp2_with (go_at_call 347;refine(rn _ _).mono ?_;rintro e w1 ⟨rfl,x1⟩)
 all_goals (try simp only[vI,Exit.then])
 refine bodyPost_ret (v:=.float .f64 (Gh .quo a b)) ?_ rfl ⟨rfl,(M6 _ _ _ _).trans x1⟩;rw[results_tmp (t:=4) (by rfl)];simp[Gi]
attribute [local irreducible] un jn jc iE ld1 iw st1 kY kZ oP rF o9 Hg Dz gO ga aV lK lB eW eV eU eC eF gE me fin iu bu eB vS Kz Hh Hi Hj Hk Hl KA KB KC KD Et Eu Hm Hn Ho KE KF KG
def ior (a b:Int):Int:=IntKind.u64.wrap (aF IntKind.u64.bits a|||aF IntKind.u64.bits b).toNat
variable {N : Value -> Prop} {X : XS}
def apq {a b:Int} (h:N (.int .u64 (ior a b))):aV P X w (binOp .or t (.int .u64 a) (.int .u64 b)) N:=Qm h
theorem anN {a:Int} (h:N (.int .u64 (I8 IntKind.u64.max a))):aV P X w (bH .xor (.int .u64 a)) N:=
 bF (λwa=>by simp[bH,Op.intBits,I8,jQ]) h
def Te (x:Nat):Int:=if land (canon x) 9223372036854775808≠0 then I8 IntKind.u64.max (canon x)else ior (canon x) 9223372036854775808
theorem aeC (x:Nat):Pure pg 367 #[.float .f64 x] (.int .u64 (Te x)):=by
 intro w0;refine aa8.1 λhs=>?_;repeat' first|refine ak ?_;intros|refine cM ?_ ?_<;>intros|(refine px (D5 _) hs ?_;intro w X hs)|(with_reducible refine fJ hs ?_);(simp_all [Te])|with_reducible (first|apply agb|apply apq|apply anN)
def ZU (x y:Nat):Int:=if Te x<Te y then-1 else if Te x>Te y then 1 else 0
theorem Dt (x y:Nat):Pure pg 349 #[.float .f64 x,.float .f64 y] (I (ZU x y)):=by
 intro w0;refine S4.1 λhs=>?_;repeat' first|refine ak ?_;intros|refine cM ?_ ?_<;>intros|(refine px (aeC _) hs ?_;intro w X hs)|(with_reducible refine fJ hs ?_);(simp_all [ZU]<;>omega)
def Tf (a b:gL):Int:=
 if !a.may||!b.may then 0 else if a.kind<b.kind then-1 else if a.kind>b.kind then 1 else if a.kind=1 then ZU a.num b.num else if zr a.text b.text then-1 else if a.text=b.text then 0 else 1
theorem Gk (a b:gL):Pure pg 309 #[a.v,b.v] (I (Tf a b)):=by
 intro w0;refine Ps.1 λhs=>?_;repeat' first|refine ak ?_;intros|refine cM ?_ ?_<;>intros|with_reducible apply cB|(refine j5 (l9 _) hs ?_ ?_<;>intro _ w X hs)|(refine px (Dt _ _) hs ?_;intro w X hs)|(with_reducible refine fJ hs ?_);(simp_all [Tf]<;>omega)
def ZV (a b:Nat):Nat:=if ZU a b>0 then canon b else canon a
def aeD (a b:Nat):Nat:=if ZU a b<0 then canon b else canon a
theorem abi (a b:Nat):Pure pg 354 #[.float .f64 a,.float .f64 b] (.float .f64 (ZV a b)):=by
 intro w0;refine Zs.1 λhs=>?_;repeat' first|refine ak ?_;intros|refine cM ?_ ?_<;>intros|(refine px (rn _) hs ?_;intro w X hs)|(refine px (Dt _ _) hs ?_;intro w X hs)|(with_reducible refine fJ hs ?_);(simp_all [ZV]<;>omega)
theorem aeE (a b:Nat):Pure pg 355 #[.float .f64 a,.float .f64 b] (.float .f64 (aeD a b)):=by
 intro w0;refine aa7.1 λhs=>?_;repeat' first|refine ak ?_;intros|refine cM ?_ ?_<;>intros|(refine px (rn _) hs ?_;intro w X hs)|(refine px (Dt _ _) hs ?_;intro w X hs)|(with_reducible refine fJ hs ?_);(simp_all [aeD]<;>omega)
def ZW (x:Nat):gL:=⟨1,canon x,⟨#[]⟩⟩
theorem H2 (x:Nat):Pure pg 348 #[.float .f64 x] (ZW x).v:=by
 intro w0;refine Rv.1 λhs=>?_;repeat' first|refine ak ?_;intros|(refine px (rn _) hs ?_;intro w X hs)|(with_reducible refine fJ hs ?_);rfl
def ZX (b:Bool):gL:=if b then ZW 4607182418800017408 else ZW 0
theorem Mo (b:Bool):Pure pg 308 #[B b] (ZX b).v:=by
 intro w0;cases b;all_goals
  refine Vw.1 λhs=>?_;repeat' first|refine ak ?_;intros|(refine px (H2 _) hs ?_;intro w X hs)|(with_reducible refine fJ hs ?_);rfl
def RD (v:gL):Bool:=if v.kind=1 then decide (cls v.num≠0/\cls v.num≠4/\cls v.num≠5)else if v.kind=2 then decide (v.text≠⟨#[]⟩)else false
theorem ZY (v:gL):Pure pg 237 #[v.v] (B (RD v)):=by
 intro w0;refine Vs.1 λhs=>?_;repeat' first|refine ak ?_;intros|refine cM ?_ ?_<;>intros|(refine px (GX _) hs ?_;intro w X hs)|(with_reducible refine fJ hs ?_);(simp_all [RD])
abbrev vJ (e:Int):List PanicEntry:=[{ v:=.iface 291 (.agg #[I e]),recovered:=false }]
def Tg (c:Int) (a b:Nat):Nat:=if c=5 then Gh .add a b else if c=6 then Gh .sub a b else if c=7 then Gh .mul a b else if c=8 then Gh .quo a b else if c=9 then ZV a b else aeD a b
theorem VJ (c:Int) (a b:gL):ER pg 310 #[I c,a.v,b.v] w X nX (λv _ _=> ¬(a.kind=2\/b.kind=2)/\v=(ZW (Tg c a.num b.num)).v) (λch _ _=>(a.kind=2\/b.kind=2)/\ch=vJ 23):=by
 intro w0 hk;have hF:FX nX (bI w0) w0:=λk ah=>ah.elim;have hT:=hF.ft (Kp.refl _ _);refine SV.1 λhs=>?_;by_cases h:a.kind=2\/b.kind=2
 ·repeat' first|refine aJ ?_;intros|refine cM ?_ ?_<;>intros|with_reducible apply cB|(with_reducible refine Sg ?_ ?_);(· kernel_rfl)
  all_goals exact Sh hs.has λwa nD=>(hT.since hs).iY nD ⟨h,rfl⟩
 ·repeat' first|refine aJ ?_;intros|refine cM ?_ ?_<;>intros|with_reducible apply cB|(refine px (H2 _) hs ?_;intro w X hs)|(refine px (agp _ _) hs ?_;intro w X hs)|(refine px (agq _ _) hs ?_;intro w X hs)|(refine px (agr _ _) hs ?_;intro w X hs)|(refine px (ags _ _) hs ?_;intro w X hs)|(refine px (abi _ _) hs ?_;intro w X hs)|(refine px (aeE _ _) hs ?_;intro w X hs)|(refine(hT.since hs).xO λwa aH=>⟨h,?_⟩;simp[Tg, *];done)
open Go
def fcl:Datum->Int
 | .infinity true=> -1
 | .infinity false=>1
 |_=>0
def fvl (b:Int):Datum->Int
 | .number s m i=>signed s m (i-b).toNat
 |_=>0
def H3:Datum->Int
 | .number _ _ i=>i
 |_=>0
theorem UT (s:Bool) (m u k:Nat):signed s m (u+k)=signed s m u*(2^k:Nat):=by
 unfold signed;simp only[Nat.shiftLeft_eq,Nat.pow_add]
 grind
theorem agt (x y:Int) (k:Nat):compare (x*(2^k:Nat)) (y*(2^k:Nat))=compare x y:=by
 have hp:(0:Int)<((2^k:Nat):Int):=by
  have:0<2^k:=Nat.two_pow_pos k;omega
 rcases Int.lt_trichotomy x y with h|h|h
 ·have:=sx h hp;rw[show compare x y= .lt from by simp[compare,compareOfLessAndEq,h],show compare (x*((2^k:Nat):Int)) (y*((2^k:Nat):Int))= .lt from by simp only[compare,compareOfLessAndEq];grind]
 ·grind
 ·have:=sx h hp;rw[show compare x y= .gt from by simp only[compare,compareOfLessAndEq];grind,show compare (x*((2^k:Nat):Int)) (y*((2^k:Nat):Int))= .gt from by simp only[compare,compareOfLessAndEq];grind]
theorem ZZ (b:Int) (x y:Datum) (hx:x.isNaN=false) (hy:y.isNaN=false) (bx:b<=H3 x) (by':b<=H3 y):
  x.order y=some (if fcl x<fcl y then .lt else if fcl y<fcl x then .gt else compare (fvl b x) (fvl b y)):=by
 cases x with
 |nan=>simp[Datum.isNaN] at hx
 |infinity s=>cases y with
  |nan=>simp[Datum.isNaN] at hy
  |infinity t=>cases s<;>cases t<;>rfl
  |number t n j=>cases s<;>rfl
 |number s m i=>cases y with
  |nan=>simp[Datum.isNaN] at hy
  |infinity t=>cases t<;>rfl
  |number t n j=>
   have bi:b<=i:=bx;have bj:b<=j:=by';have e1:(i-b).toNat=(i-min i j).toNat+(min i j-b).toNat:=by omega
   have e2:(j-b).toNat=(j-min i j).toNat+(min i j-b).toNat:=by omega
   show some (compare (signed s m (i-min i j).toNat) (signed t n (j-min i j).toNat))=some (compare (signed s m (i-b).toNat) (signed t n (j-b).toNat))
   rw[e1,e2,UT,UT,agt]
def fk (b:Int) (d:Datum):Int×Int:=(fcl d,fvl b d)
def kle (a b:Int×Int):Prop:=a.1<b.1\/a.1=b.1/\a.2<b.2
theorem anO {x y:Int} :compare x y= .lt↔x<y:=by
 simp only[compare,compareOfLessAndEq]
 grind
variable {x y : Datum}
theorem yf {b:Int} (hx:x.isNaN=false) (hy:y.isNaN=false) (bx:b<=H3 x) (by':b<=H3 y):x.order y=some .lt↔kle (fk b x) (fk b y):=by
 rw[ZZ b x y hx hy bx by'];unfold kle fk;simp only[aj];split
 ·simp[*]
 ·split
  ·simp;omega
  ·rw[anO];omega
theorem Jf {b:Int} (hx:x.isNaN=false) (hy:y.isNaN=false) (bx:b<=H3 x) (by':b<=H3 y):x.order y=some .eq↔fk b x=fk b y:=by
 rw[ZZ b x y hx hy bx by'];unfold fk;simp only[aj,Prod.mk.injEq]
 grind
theorem C9 {o:Ordering} (h:x.order y=some o):x.isNaN=false/\y.isNaN=false:=by
 cases x<;>cases y<;>first|exact⟨rfl,rfl⟩|simp[Datum.order] at h
abbrev fd (a:Nat):Datum:=FloatKind.f64.format.read a
variable {b : Nat}
theorem We {a:Nat} :qq a b=true↔(fd a).order (fd b)=some .lt:=by unfold qq Format.order;simp
theorem aeF {a:Nat} :pA a b=true↔(fd a).order (fd b)=some .eq:=by unfold pA Format.order;simp
theorem three (x y z:Datum): ∃b:Int,b<=H3 x/\b<=H3 y/\b<=H3 z:=⟨min (H3 x) (min (H3 y) (H3 z)),by omega,by omega,by omega⟩
variable {c : Nat}
theorem agu {a:Nat} (h:qq a b=true) (k:qq b c=true):qq a c=true:=by
 rw[We] at*;obtain⟨p,p1,p2,p3⟩:=three (fd a) (fd b) (fd c);have n1:=C9 h;have n2:=C9 k;rw[yf n1.1 n1.2 p1 p2] at h;rw[yf n2.1 n2.2 p2 p3] at k;rw[yf n1.1 n2.2 p1 p3];unfold kle at*;omega
theorem ak6 {a:Nat} (h:qq a b=true) (k:pA b c=true):qq a c=true:=by
 rw[We] at*;rw[aeF] at k;obtain⟨p,p1,p2,p3⟩:=three (fd a) (fd b) (fd c);have n1:=C9 h;have n2:=C9 k;rw[yf n1.1 n1.2 p1 p2] at h;rw[Jf n2.1 n2.2 p2 p3] at k;rw[yf n1.1 n2.2 p1 p3,<-k];exact h
theorem ak7 {a:Nat} (h:pA a b=true) (k:qq b c=true):qq a c=true:=by
 rw[We] at*;rw[aeF] at h;obtain⟨p,p1,p2,p3⟩:=three (fd a) (fd b) (fd c);have n1:=C9 h;have n2:=C9 k;rw[Jf n1.1 n1.2 p1 p2] at h;rw[yf n2.1 n2.2 p2 p3] at k;rw[yf n1.1 n2.2 p1 p3,h];exact k
theorem ab4 {a:Nat} (h:pA a b=true):pA b a=true:=by
 rw[aeF] at*;obtain⟨p,p1,p2,_⟩:=three (fd a) (fd b) (fd b);have n1:=C9 h;rw[Jf n1.1 n1.2 p1 p2] at h;rw[Jf n1.2 n1.1 p2 p1];exact h.symm
theorem aeG (a:Nat):qq a a=false:=by
 cases h:qq a a with
 |false=>rfl
 |true=>
  rw[We] at h;have n1:=C9 h;rw[yf (b:=H3 (fd a)) n1.1 n1.2 (Int.le_refl _) (Int.le_refl _)] at h;unfold kle at h;omega
theorem abj {a:Nat} (h:qq a b=true):pA a b=false:=by
 cases k:pA a b with
 |false=>rfl
 |true=>
  have:=ak6 h (ab4 k)
  grind [aeG]
variable {rows : List (List Value)} {i k : Nat} {z : Int} {v : Value}
theorem aiX (h:Sl w X k v rows) (hz:z=i) (hi:i<=rows.length) (ht:P.underlying t=some (.slice (P.elem t))) (hs:(P.info? (P.elem t)).map (·.size)=some k)
  (n: ∀v',Sl w X k v' (rows.take i)->N v'):aV P X w (Instr.sliceAt t v none (some (.int .i64 z)) none) N:=by
 obtain⟨h1,h2,base,cap,rfl,hc,hb,hlc,iF⟩:=h;refine aK.KR hz zQ ht (by cases hq:P.info? (P.elem t)<;>simp[hq] at hs⊢) (n _ ?_);have hl:(rows.take i).length=i:=by rw[aD];omega
 refine⟨λr hr=>h1 r (dN hr),by omega,base,cap,by rw[hl],λcA=>?_,λAl=>?_,by omega,iF⟩
 ·obtain⟨b,o,rfl,jm⟩:=hc (by rintro rfl;simp at cA);refine⟨b,o,rfl,?_⟩;rw[aK.lN i h1];obtain⟨hx,c,ty,fr,dZ,Bw⟩:=jm;refine⟨hx,c,ty,fr,dZ,λq u hu=>?_⟩;have hq:=(List.getElem?_eq_some_iff.1 hu).1;rw[aD] at hq;rw[List.getElem?_take_of_lt zQ] at hu;exact Bw _ _ hu
 ·have:=hb Al;omega
def lI (a:Nat) (s:Nat×Int) (r:dR):Nat×Int:=if pA r.lo a then(r.hi,s.2+1)else s
def H4 (l:List dR) (a:Nat):Nat×Int:=l.foldl (lI a) (0,0)
def H5 (l:List dR):Nat->Nat->Int->Int
 |0,_,_=>99
 |n+1,a,u=>if qq a Gf then(if(H4 l a).2=1 then H5 l n (H4 l a).1 (u+1)else 14)else if u=l.length then 0 else 14
def Jg:List dR->List dR->Int
 |_,[]=>0
 |b,r::t=>if r.may then(if b.any (λo=>decide (o.id=r.id))then 9 else Jg (b++[r]) t)else 1
def A7 (l:List dR):Int:=if l.length=0 then 8 else if 12<l.length then 3 else if Jg [] l≠0 then Jg [] l else H5 l (l.length+1) 0 0
theorem Gl (a:Nat): ∀(l:List dR) (s:Nat×Int),s.2<=(l.foldl (lI a) s).2/\(l.foldl (lI a) s).2<=s.2+l.length
 |[],s=>by simp
 |r::l,s=>by
  have h:=Gl a l (lI a s r);have h1:s.2<=(lI a s r).2/\(lI a s r).2<=s.2+1:=by unfold lI;split<;>simp<;>omega
  rw[iB,aL];omega
theorem Ou (a:Nat): ∀(l:List dR) (s:Nat×Int),(l.foldl (lI a) s).2=s.2->l.foldl (lI a) s=s/\ ∀r∈l,pA r.lo a=false
 |[],s,_=>by simp
 |r::l,s,h=>by
  rw[iB] at h;have hle:=Gl a l (lI a s r);by_cases hr:pA r.lo a=true
  ·have:lI a s r=(r.hi,s.2+1):=by unfold lI;rw[if_pos hr]
   rw[this] at hle h;simp only at hle;omega
  ·have e:lI a s r=s:=by unfold lI;rw[if_neg hr]
   rw[e] at h;have:=Ou a l s h;rw[iB,e];exact⟨this.1,λx hx=>by
    rcases List.mem_cons.1 hx with rfl|hx
    ·simpa using hr
    ·exact this.2 x hx⟩
theorem RE (a:Nat): ∀(l:List dR) (s:Nat×Int),(l.foldl (lI a) s).2=s.2+1-> ∃r∈l,pA r.lo a=true/\(l.foldl (lI a) s).1=r.hi
 |[],s,h=>by simp at h;omega
 |r::l,s,h=>by
  rw[iB] at h⊢;by_cases hr:pA r.lo a=true
  ·have e:lI a s r=(r.hi,s.2+1):=by unfold lI;rw[if_pos hr]
   rw[e] at h⊢;have:=Ou a l (r.hi,s.2+1) h;exact⟨r,by simp,hr,by rw[this.1]⟩
  ·have e:lI a s r=s:=by unfold lI;rw[if_neg hr]
   rw[e] at h⊢;obtain⟨q,hq,h1,h2⟩:=RE a l s h;exact⟨q,bX _ hq,h1,h2⟩
def later (l:List dR) (a:Nat):Nat:=(l.filter λr=>!qq r.lo a).length
theorem filter_lt {α:Type} {p q:α->Bool} : ∀{l:List α},(∀x∈l,q x=true->p x=true)->(∃x∈l,p x=true/\q x=false)->(l.filter q).length<(l.filter p).length
 |[],_,h=>by obtain⟨x,hx,_⟩:=h;cases hx
 |a::l,h,h2=>by
  have hle: ∀{l:List α},(∀x∈l,q x=true->p x=true)->(l.filter q).length<=(l.filter p).length:=λ{l} h=>by
   induction l with
   |nil=>simp
   |cons b l ih=>
    have:=ih λx hx=>h x (bX _ hx);have hb:=h b sQ;by_cases hq:q b=true
    ·simp[eH,hq,hb hq];exact this
    ·by_cases hp:p b=true
     ·simp[eH,hq,hp];omega
     ·simp[eH,hq,hp];exact this
  have hl: ∀x∈l,q x=true->p x=true:=λx hx=>h x (bX _ hx);obtain⟨x,hx,h3,h4⟩:=h2;rcases List.mem_cons.1 hx with rfl|hx
  ·have:=hle hl;simp[eH,h3,h4];omega
  ·have ih:=filter_lt hl ⟨x,hx,h3,h4⟩;have hb:=h a sQ;by_cases hq:q a=true
   ·simp[eH,hq,hb hq];exact ih
   ·by_cases hp:p a=true
    ·simp[eH,hq,hp];omega
    ·simp[eH,hq,hp];exact ih
variable {l : List dR}
theorem aiY {a:Nat} (hm: ∀r∈l,r.may=true) (h:(H4 l a).2=1):later l (H4 l a).1<later l a:=by
 obtain⟨r,hr,h1,h2⟩:=RE a l (0,0) h;have h2:(H4 l a).1=r.hi:=h2;have h3:qq r.lo r.hi=true:=by have:=hm r hr;unfold dR.may at this;simp only[Bool.and_eq_true] at this;exact this.2
 have h4:qq a r.hi=true:=ak7 (ab4 h1) h3;rw[h2];refine filter_lt (λx hx hq=>?_) ⟨r,hr,?_,by rw[h3];rfl⟩
 ·cases hc:qq x.lo a with
  |false=>rfl
  |true=>rw[agu hc h4] at hq;cases hq
 ·cases hc:qq r.lo a with
  |false=>rfl
  |true=>rw[abj hc] at h1;cases h1
theorem Z1: ∀{l b:List dR},Jg b l=0->(∀r∈l,r.may=true)/\(∀r∈l,∀o∈b,o.id≠r.id)/\l.Pairwise λx y=>x.id≠y.id
 |[],b,_=>by simp
 |r::t,b,h=>by
  unfold Jg at h;by_cases hm:r.may=true
  ·rw[if_pos hm] at h;by_cases ha:(b.any λo=>decide (o.id=r.id))=true
   ·rw[if_pos ha] at h;omega
   ·rw[if_neg ha] at h;have ih:=Z1 h;have ha': ∀o∈b,o.id≠r.id:=λo ho e=>ha (List.any_eq_true.2 ⟨o,ho,by simpa using e⟩);refine⟨λx hx=>?_,λx hx o ho=>?_,List.pairwise_cons.2 ⟨λx hx=>ih.2.1 x hx r sQ,ih.2.2⟩⟩
    ·rcases List.mem_cons.1 hx with rfl|hx
     ·exact hm
     ·exact ih.1 x hx
    ·rcases List.mem_cons.1 hx with rfl|hx
     ·exact ha' o ho
     ·exact ih.2.1 x hx o (by simp[ho])
  ·rw[if_neg hm] at h;omega
variable {a : Value}
theorem VK (ha:Sl w X 4 a (l.map dR.l)):Ct pg 122 #[a] w X nX λv _ _=>v=I (A7 l):=by
 intro w0 hk;replace ha:=ha.mv hk.bY;have kn:=ha.gR;refine SL.1 λhs=>?_;repeat' first|refine ak ?_;intros|refine cM ?_ ?_<;>intros|(refine qr ?_;intro wa hk;(first|(unfold A7;rw[if_pos zQ])|(unfold A7;rw[if_neg zQ,if_pos zQ])))
 refine gv (λn a b w X=> ∃i:Nat,a=I i/\n=l.length-i/\i<=l.length/\ai (bI w0) w0 X w/\Jg [] l=Jg (l.take i) (l.drop i)) l.length ⟨0,rfl,rfl,aq _,hs,rfl⟩ ?_;rintro n a b w X ⟨i,rfl,rfl,hi,hs,hw⟩;rcases dE (l) i with⟨cD,x,hx,hd⟩|⟨dD,hd⟩
 ·rw[hd,Jg] at hw;by_cases hm:x.may=true
  ·rw[if_pos hm] at hw;repeat' first|refine aJ ?_;intros|(refine j5 (vZ _) hs ?_ ?_<;>intro _ w X hs)|(exfalso;simp_all;done)
   refine aiX (i:=i) (rows:=l.map dR.l) (ha.since hs) rfl (by rw[af];omega) kQ kQ λv1 kO=>?_;rw[<-List.map_take] at kO;have CG:(l.take i).length=i:=by rw[aD];omega
   repeat' refine ak ?_;intros
   refine eY (λn a w1 X1=> ∃j:Nat,a=I (j:Nat)/\n=(l.take i).length-j/\j<=(l.take i).length/\ai X w X1 w1/\((l.take i).any λo=>decide (o.id=x.id))=(((l.take i).drop j).any λo=>decide (o.id=x.id))) (l.take i).length ⟨0,rfl,rfl,aq _,ai.eQ hs.has,by simp⟩ ?_;rintro n a w1 X1 ⟨j,rfl,rfl,hj,bp,uP⟩;replace kO:=kO.since bp;replace hs:=hs.trans bp;rcases dE (l.take i) j with⟨Xs,y,hy,tD⟩|⟨Gz,tD⟩
   ·rw[tD,List.any_cons] at uP;by_cases PL:y.id=x.id
    ·repeat' first|refine aJ ?_;intros|(refine qr ?_;intro wa hk;(unfold A7;rw[if_neg zQ,if_neg zQ,hw,uP,PL];simp))
    ·repeat' first|refine aJ ?_;intros|((with_reducible refine ep ((l.take i).length-(j+1)) ?_ ?_);omega;exact⟨j+1,by simp,rfl,by omega,bp,by rw[uP];simp[PL]⟩)
   ·rw[tD] at uP;simp only[List.any_nil] at uP;rw[if_neg (by rw[uP];simp)] at hw;repeat' first|refine aJ ?_;intros|((with_reducible refine fw ((l).length-(i+1)) ?_ ?_);omega;exact⟨i+1,by simp,rfl,by omega,hs,by rw[hw,bT,hx];rfl⟩)
  ·rw[if_neg hm] at hw;repeat' first|refine aJ ?_;intros|(refine j5 (vZ _) hs ?_ ?_<;>intro _ w X hs)|(exfalso;simp_all;done)|(refine qr ?_;intro wa hk;(unfold A7;rw[if_neg zQ,if_neg zQ,hw];rfl))
 ·rw[hd,aA dD,Jg] at hw;have hC:A7 l=H5 l (l.length+1) 0 0:=by unfold A7;rw[if_neg zQ,if_neg zQ,if_neg zQ]
  repeat' refine aJ ?_;intros
  refine amQ (λn a b c d e w X=> ∃(u:Int) (gK:Nat),a=I u/\b= .float .f64 gK/\later l gK<n/\0<=u/\u+n<=l.length+1/\ai (bI w0) w0 X w/\A7 l=H5 l n gK u) (l.length+1) ⟨0,0,rfl,rfl,?_,by omega,by omega,hs,hC⟩ ?_
  ·have:later l 0<=l.length:=List.length_filter_le _ _;omega
  rintro n a b c d e w X ⟨u,a0,rfl,rfl,ix,hu0,hu1,hs,vT⟩;obtain⟨k,rfl⟩: ∃j,n=j+1:=⟨n-1,by omega⟩;rw[H5] at vT;have Al:=Gl a0 l (0,0);by_cases CG:qq a0 Gf=true
  ·rw[if_pos CG] at vT;repeat' first|refine ak ?_;intros|refine cM ?_ ?_<;>intros|(exfalso;simp_all [Gf];done)
   refine CC (λn a b c w X=> ∃i:Nat,a=I i/\b=I ((l.take i).foldl (lI a0) (0,0)).2/\c= .float .f64 ((l.take i).foldl (lI a0) (0,0)).1/\n=l.length-i/\i<=l.length/\ai (bI w0) w0 X w) l.length ⟨0,rfl,rfl,rfl,rfl,aq _,hs⟩ ?_;rintro n a b c w X ⟨i,rfl,rfl,rfl,rfl,hi,hs⟩;have lL:=Gl a0 (l.take i) (0,0);have hli:(l.take i).length=i:=by rw[aD];omega
   rw[hli] at lL;rcases dE (l) i with⟨cD,x,hx,hd⟩|⟨dD,hd⟩
   ·have fN:(l.take (i+1)).foldl (lI a0) (0,0)=lI a0 ((l.take i).foldl (lI a0) (0,0)) x:=by rw[bT,hx,Az];rfl
    generalize (l.take i).foldl (lI a0) (0,0)=s at fN lL⊢;by_cases hf:pA x.lo a0=true
    ·rw[show lI a0 s x=(x.hi,s.2+1)by unfold lI;rw[if_pos hf]] at fN;repeat' first|refine aJ ?_;intros|refine cM ?_ ?_<;>intros|with_reducible apply cB|(exfalso;simp_all;done)|((with_reducible refine AT ((l).length-(i+1)) ?_ ?_);omega;exact⟨i+1,by simp,by rw[fN],by rw[fN],rfl,by omega,hs⟩)
    ·rw[show lI a0 s x=s by unfold lI;rw[if_neg hf]] at fN;repeat' first|refine aJ ?_;intros|refine cM ?_ ?_<;>intros|with_reducible apply cB|(exfalso;simp_all;done)|((with_reducible refine AT ((l).length-(i+1)) ?_ ?_);omega;exact⟨i+1,by simp,by rw[fN],by rw[fN],rfl,by omega,hs⟩)
   ·rw[aA dD];change _/\_<=_ at Al;change A7 l=if(List.foldl (lI a0) (0,0) l).2=1 then H5 l k (List.foldl (lI a0) (0,0) l).1 (u+1)else 14 at vT
    by_cases wN:(l.foldl (lI a0) (0,0)).2=1
    ·have cD:=aiY ((Z1 hw).1) (a:=a0) wN;rw[if_pos wN] at vT;unfold H4 at cD;repeat' first|refine aJ ?_;intros|(with_reducible refine amR k ?_ ?_);omega;exact⟨u+1,_,rfl,rfl,by omega,by omega,by omega,hs,vT⟩
    ·rw[if_neg wN] at vT;repeat' first|refine aJ ?_;intros|(refine qr ?_;intro wa hk;(rw[vT]))
  ·rw[if_neg CG] at vT;repeat' first|refine ak ?_;intros|refine cM ?_ ?_<;>intros|(exfalso;exact CG aQ)|(refine qr ?_;intro wa hk;(rw[vT];first|(rw[if_pos aQ])|(rw[if_neg aQ])))
variable {kt : TypeId}
theorem PC (h:P.underlying kt=some (.int .i64)) (e:Bool) (n:Nat) (k:Int) (w:World):(gS e (n+1) kt (I k)).run P w= .ok () w:=by simp[gS,run_underlying h]
theorem ak8 (h:P.underlying kt=some (.int .i64)):xf P kt (λz:Int=>I z) where
 jc e k w:=PC h e 9999 k w
 find k l w:=by
  have: ∀(l:List (Go.aK.jo Int)) (i:Nat),ko (.int .i64) (I k) (l.map (ly λz=>I z)) i=some (ta k l i):=by
   intro l
   induction l with
   |nil=>intro i;rfl
   |cons x r ih=>
    intro i;by_cases hk:k=x.1
    ·simp[ko,ly,Instr.sameNow,ta,hk]
    ·have hb:(k==x.1)=false:=by simpa using hk
     simp[ko,ly,Instr.sameNow,ta,hk,hb,ih]
  simp[Instr.findKey,run_underlying h,this]
 same k:=by simp[Instr.sameBits]
def xS:xf pg 3 (λz:Int=>I z):=ak8 kQ
def F9:World->XS->Value->dR->Prop:=λ_ _ v x=>v=x.v
def PD:qt F9:=λ_ _ _ _ _ _ h _=>h
abbrev pc:=List (Int×dR)
structure kJ (w:World) (X:XS) (db mb:Nat) (ds:pc):Prop where
 row:aG w X db [.map (some mb)] 224
 map:dM w X nX mb (λz:Int=>I z) F9 ds
variable {w' : World} {A D X' : XS} {db mb : Nat} {ds Ol : pc}
def kJ.mv (h:kJ w X db mb ds) (v:Mv X w X' w'):kJ w' X' db mb ds:=⟨h.row.mv v,h.map.mv PD v λ_ h=>h.elim⟩
theorem kJ.ne (h:kJ w X db mb ds):db≠mb:=λe=>by
 obtain⟨es,c,h1,_⟩:=h.map;have h2:=h1.2.1;rw[<-e,h.row.2] at h2;simp at h2
theorem kJ.put (h:kJ w D db mb ds) (hX: ∀k,D k->X k) (c:ee (· =mb) X w X' w') (hm:dM w' X' nX mb (λz:Int=>I z) F9 Ol):kJ w' D db mb Ol:=
 ⟨⟨h.row.1,(c.block _ (hX _ h.row.1) h.ne).trans h.row.2⟩,by obtain⟨es,c,h1,h2⟩:=hm;exact⟨es,c,⟨h.map.x.1,h1.2⟩,h2⟩⟩
def ib (ds:pc) (r:dR):pc:=if r.may then(match getM r.id ds with|some o=>if o.iD>=r.iD then ds else cL r.id r ds|none=>cL r.id r ds)else ds
theorem Ov (h:kJ w D db mb ds) (hD:FX D X w) (ha:Sl w A 4 a (l.map dR.l)) (hA: ∀k,A k->X k/\k≠mb):
  Ct pg 123 #[ptr db 0,a] w X (· =mb) λv _ w'=>(∃n,v=I n)/\kJ w' D db mb (l.foldl ib ds):=by
 intro w0 hk;have hF:FX (· =mb) X w:=λk ah=>by subst ah;exact hD _ h.map.x.1
 have hT:=hF.ft hk;replace h:=h.mv (hD.mv hk);have hD0:=hD.kp hk;have hao:Sl w0 (out (· =mb) w0) 4 a (l.map dR.l):=ha.mv λk ah hl=>⟨⟨aw hl hk.size,(hA k ah).2⟩,hk.block k (hA k ah).1⟩;have kn:=hao.gR;have ha:=hao.mv hT.s.mv;refine Pn.1 λ_=>?_;have hs:=hT.s;repeat' refine ak ?_;intros
 refine gv (λn a b w X=> ∃(i:Nat) (c:Int),a=I i/\b=I c/\0<=c/\c<=i/\n=l.length-i/\i<=l.length/\Ft w0 (· =mb) w X (· =mb)/\FX D X w/\kJ w D db mb ((l.take i).foldl ib ds)) l.length ⟨0,0,rfl,rfl,by omega,by omega,rfl,aq _,hT,hD0,h⟩ ?_;clear hs hT h ha;rintro n _ _ w X ⟨i,c,rfl,rfl,wJ,Ap,rfl,hi,hT,RF,h⟩;have ha:=hao.mv hT.s.mv;have bo:=h.row.mono λk ah=>(RF k ah).1;have hs:=hT.s;rcases dE (l) i with⟨cD,x,hx,hd⟩|⟨dD,hd⟩
 ·have fN:(l.take (i+1)).foldl ib ds=ib ((l.take i).foldl ib ds) x:=by rw[bT,hx,Az];rfl
  generalize (l.take i).foldl ib ds=s at fN h;have nj: ∀{w':World} {X':XS} (c':Int),0<=c'->c'<=c+1->Ft w0 (· =mb) w' X' (· =mb)->FX D X' w'->kJ w' D db mb (ib s x)->
    Eu (J2 λn a b w X=> ∃(i:Nat) (c:Int),a=I i/\b=I c/\0<=c/\c<=i/\n=l.length-i/\i<=l.length/\Ft w0 (· =mb) w X (· =mb)/\FX D X w/\kJ w D db mb ((l.take i).foldl ib ds)) (l.length-i) (I ((i:Int)+1)) (I c') w' X':=
   λc' q0 q1 q2 q3 q4=>fw (l.length-(i+1)) zQ ⟨i+1,c',by simp,rfl,q0,by omega,rfl,by omega,q2,q3,by rw[fN];exact q4⟩
  have Mp: ∀{w1:World} {X1:XS} {K:Value->World->XS->Prop},Ft w0 (· =mb) w1 X1 (· =mb)->FX D X1 w1->kJ w1 D db mb s->ib s x=cL x.id x s->
    (∀w2 X2,Ft w0 (· =mb) w2 X2 (· =mb)->FX D X2 w2->kJ w2 D db mb (ib s x)->K undef w2 X2)->
    eU pg (uF (· =mb) w0 λv w'=>(λv _ w'=>(∃n,v=I n)/\kJ w' D db mb (l.foldl ib ds)) v w0 w') X1 w1 true (cK 222 (.map (some mb)) (I x.id) x.v) K:=λq1 q2 q3 q4 k=>by
   refine uY (kt:=3) (et:=48) (a:=x) (q3.mv (Mv.sub λk ah=>(q2 k ah).1)).map PD rfl (λ_ hk=>hk.elim) xS kQ q1.s.has λw2 X2 c2 rl=>?_;rw[q4] at k;exact k w2 X2 (q1.dY c2 (λk ah=>ah) λk ah=>.inl ah) (λk ah=>⟨c2.sub k (q2 k ah).1,c2.has k (c2.sub k (q2 k ah).1)⟩) (q3.put (λk ah=>(q2 k ah).1) c2 rl)
  repeat' first|refine aJ ?_;intros|with_reducible apply cB
  refine Fg (kt:=3) (et:=48) (.agg #[I 0,I 0,.float .f64 0,.float .f64 0]) (h.mv (Mv.sub λk ah=>(RF k ah).1)).map xS kQ kQ (λv a hg hv=>?_) (λhg=>?_)
  ·simp only[F9] at hv;subst hv;repeat' refine ak ?_;intros
   refine rL (vZ x) kQ hs.has λw1 X1 ax=>?_;have ea:=hT.since ax;have UU:FX D X1 w1:=λk ah=>⟨ax.sub k (RF k ah).1,aw (RF k ah).2 ax.kp.size⟩;have h1:=h.mv (ax.gU λk ah=>(RF k ah).1);have DX:=h1.row.mono λk ah=>(UU k ah).1;clear hs bo;have hs:=ea.s;by_cases hm:x.may=true
   ·rw[hm];by_cases dD:a.iD>=x.iD
    ·repeat' first|refine aJ ?_;intros|(exact nj c wJ zQ ea UU (by unfold ib;rw[if_pos hm,hg];simp only;rw[if_pos dD];exact h1))
    ·repeat' refine aJ ?_;intros
     refine Mp ea UU h1 (by unfold ib;rw[if_pos hm,hg];simp only;rw[if_neg dD]) λw2 X2 dh hD2 h2=>?_;repeat' first|refine ak ?_;intros|(exact nj (c+1) zQ zQ dh hD2 h2)
   ·rw[show x.may=false by simpa using hm];repeat' first|refine ak ?_;intros|(exact nj c wJ zQ ea UU (by unfold ib;rw[if_neg hm];exact h1))
  ·repeat' refine ak ?_;intros
   refine rL (vZ x) kQ hs.has λw1 X1 ax=>?_;have ea:=hT.since ax;have UU:FX D X1 w1:=λk ah=>⟨ax.sub k (RF k ah).1,aw (RF k ah).2 ax.kp.size⟩;have h1:=h.mv (ax.gU λk ah=>(RF k ah).1);have DX:=h1.row.mono λk ah=>(UU k ah).1;clear hs bo;have hs:=ea.s;by_cases hm:x.may=true
   ·rw[hm];repeat' refine ak ?_;intros
    refine Mp ea UU h1 (by unfold ib;rw[if_pos hm,hg]) λw2 X2 dh hD2 h2=>?_;repeat' first|refine ak ?_;intros|(exact nj (c+1) zQ zQ dh hD2 h2)
   ·rw[show x.may=false by simpa using hm];repeat' first|refine ak ?_;intros|(exact nj c wJ zQ ea UU (by unfold ib;rw[if_neg hm];exact h1))
 ·repeat' refine aJ ?_;intros
  rw[aA dD] at h;exact hT.fin λwa aH=>⟨⟨c,rfl⟩,h.mv (aH.iZ λk ah=>(RF k ah).1)⟩
theorem afs (ha:Sl w X 4 a (l.map dR.l)):
  Ct pg 74 #[a] w X nX λv wa w'=>if A7 l≠0 then v= .tuple #[.pointer none,I (A7 l)] else∃db mb D,v= .tuple #[ptr db 0,I 0]/\(∀k,D k->made wa w' k)/\kJ w' D db mb (l.foldl ib []):=by
 intro w0 hk;replace ha:=ha.mv hk.bY;have hF:FX nX X w:=λk ah=>ah.elim;have hT:=hF.ft hk;have hs:=ai.init w0;refine aeq.1 λ_=>?_;refine dL (VK ha) kQ hs.has λw1 X1 ax=>?_;replace hT:=hT.since ax;replace hs:=hs.trans ax;replace ha:=ha.since ax;by_cases hc:A7 l≠0
 ·repeat' refine aJ ?_;intros
  exact hT.fin λwa aH=>by simp only[if_pos hc]
 ·repeat' refine aJ ?_;intros
  refine ri (kv:=λk:Int=>I k) F9 nX hT.s.has λmb w2 X2 ZP xM rl=>?_;have dh:=hT.since xM;clear hs;repeat' refine ak ?_;intros
  refine AZ dh.s.has λdb w3 X3 hdb cY bo=>?_;have dU:=dh.since cY;have qo:=rl.mv PD cY.mv (λ_ h=>h.elim) (A':=nX);have Jo:=rl.x.2;have h3:kJ w3 (λk=>k=db\/k=mb) db mb []:=⟨⟨.inl rfl,bo.2⟩,by obtain⟨es,c,h1,h2⟩:=qo;exact⟨es,c,⟨.inr rfl,h1.2⟩,h2⟩⟩;have hz:=ax.kp.size;have hD3:FX (λk=>k=db\/k=mb) X3 w3:=λk ah=>by
   rcases ah with e|e<;>subst e
   ·exact⟨bo.1,bo.lt⟩
   ·exact⟨qo.x.1,qo.x.2⟩
  have EM:Ft w0 nX w3 X3 (λk=>k=mb):=dU.more λk e=>by subst e;exact .inr ⟨qo.x.1,by omega⟩
  have ha3:Sl w3 X1 4 a (l.map dR.l):=ha.mv λk ah _=>⟨ah,(xM.trans cY).kp.block k ah⟩;refine EM.call (Ov (A:=X1) h3 hD3 ha3 λk ah=>⟨cY.sub k (xM.sub k ah),λe=>by have:=hT.s.has k ah;omega⟩) kQ (λ_ h=>h) λv zk w4 X4 hq tr oH fO c4=>?_;obtain⟨_,h4⟩:=hq;have hz4:=c4.size
  skip
  exact fO.fin λwa aH=>by
   simp only[if_neg hc];exact⟨db,mb,_,rfl,λk ah=>by have:=aH.size;have:=bo.lt;have:=qo.x.2;rcases ah with e|e<;>subst e<;>exact⟨by omega,by omega⟩,h4.mv (aH.iZ λk ah=>c4.sub k (hD3 k ah).1)⟩
def dR.R4 (r:dR) (x:Nat):Bool:=(Jx x r.lo||pA x r.lo)&&qq x r.hi
def zz (ds:pc) (x:Nat):Nat->Option dR
 |0=>none
 |n+1=>match getM ((n+1:Nat):Int) ds with
  |some r=>if dR.R4 r x then some r else zz ds x n
  |none=>zz ds x n
def nv (ds:pc) (k:BA):Option dR:=if iM k then zz ds (placeOf k) 12 else none
theorem abk {k:BA} (h:kJ w X db mb ds) (hk:k.size<=2^62):
  Ct pg 163 #[ptr db 0,.string k] w X nX λv _ _=>v= .tuple #[((nv ds k).getD .zero).v,B (nv ds k).isSome]:=by
 intro w0 ix;replace h:=h.mv ix.bY;have bo:=h.row;refine Pp.1 λhs=>?_;by_cases hg:iM k=true
 ·have hR:nv ds k=zz ds (placeOf k) 12:=by unfold nv;rw[if_pos hg]
  rw[hR];clear hR;generalize arC:zz ds (placeOf k) 12=R12;repeat' first|refine ak ?_;intros|(refine j5 (kX _) hs ?_ ?_<;>intro _ w X hs)|(refine px (Ja _ (by first|assumption|omega)) hs ?_;intro w X hs)|(exfalso;simp_all;done)
  refine gv (λn a b w X=> ∃j:Nat,a=I (j:Nat)/\b=dR.zero.v/\n=j/\j<=12/\ai (bI w0) w0 X w/\R12=zz ds (placeOf k) j) 12 ⟨12,rfl,rfl,rfl,by omega,hs,arC.symm⟩ ?_;clear hs;rintro n _ _ w X ⟨j,rfl,rfl,rfl,hj,hs,hw⟩;cases n with
  |zero=>
   repeat' first|refine aJ ?_;intros|(refine qr ?_;intro wa hk;(rw[hw];rfl))
  |succ j=>
   rw[zz] at hw;repeat' refine aJ ?_;intros
   refine Fg (kt:=3) (et:=48) dR.zero.v (h.mv hs.mv).map xS kQ kQ (λv r hg hv=>?_) (λhg=>?_)
   ·simp only[F9] at hv;subst hv;rw[hg] at hw;simp only at hw;change R12=if((Jx (placeOf k) r.lo||pA (placeOf k) r.lo)&&qq (placeOf k) r.hi)=true then some r else zz ds (placeOf k) j at hw
    by_cases gn:((Jx (placeOf k) r.lo||pA (placeOf k) r.lo)&&qq (placeOf k) r.hi)=true
    ·rw[if_pos gn] at hw;repeat' first|refine ak ?_;intros|with_reducible apply cB|(refine j5 (I7 _ _) hs ?_ ?_<;>intro _ w X hs)|(exfalso;simp_all;done)|(refine qr ?_;intro wa hk;(rw[hw];rfl))
    ·rw[if_neg gn] at hw;repeat' first|refine ak ?_;intros|with_reducible apply cB|(refine j5 (I7 _ _) hs ?_ ?_<;>intro _ w X hs)|(exfalso;simp_all;done)|(with_reducible refine fw j ?_ ?_);omega;exact⟨j,by congr 1;omega,rfl,rfl,by omega,hs,hw⟩
   ·rw[hg] at hw;repeat' first|refine ak ?_;intros|with_reducible apply cB|(with_reducible refine fw j ?_ ?_);omega;exact⟨j,by congr 1;omega,rfl,rfl,by omega,hs,hw⟩
 ·have hR:nv ds k=none:=by unfold nv;rw[if_neg hg]
  rw[hR];repeat' first|refine ak ?_;intros|(refine j5 (kX _) hs ?_ ?_<;>intro _ w X hs)|(refine px (Ja _ (by first|assumption|omega)) hs ?_;intro w X hs)|(exfalso;simp_all;done)|(refine qr ?_;intro wa hk;rfl)
open Go.Maps Go.Shelf Go.Proofs
abbrev zp:Int->Value:=λz=>I z
theorem Z2 {kt:Nat} {es:List (jo Int)} (h:ml w X b zp es c) (hk:P.underlying kt=some (.int .i64)) (hs: ∀x∈es,-(2^63)<=x.1/\x.1<2^63) (hl:es.length<=2^40):
  ∃D0:DataW Unit,w.ownsMap P kt RT b es.length D0/\Maps.size D0=es.length/\(intKeys D0).Perm (es.map λx=>x.1):=by
 have Hc:(2:Nat)^40<=maxLen:=by decide
 have oJ: ∀x∈es,keyOf P kt (zp x.1)=some (.int .i64 x.1):=λx hx=>by
  unfold keyOf mapKey;rw[hk];have:=hs x hx;have h1:IntKind.i64.min= -(2^63):=by decide
  simp[zp,Lit.wf,h1];omega
 have jv: ∀x∈es,rR P kt RT (ly zp x)=some (.int .i64 x.1,.lit (.bool true)):=λx hx=>by
  unfold rR ly RT;simp[oJ x hx]
 have aiQ:(es.map (ly zp)).map (mK P kt RT)=es.map λx=>((.int .i64 x.1:Lit),(.lit (.bool true):DataW Unit)):=by
  rw[bU];apply List.map_congr_left;intro x hx;simp only[Function.comp,mK,jv x hx,Bn]
 refine⟨.map (((es.map (ly zp)).map (mK P kt RT)).foldr DataW.insert []),⟨_,c,h.2.1,⟨?_,⟨?_,?_,?_⟩,?_⟩,by simp,by simp⟩,?_,?_⟩
 ·simpa using ad hl Hc
 ·intro x hx;simp only[cR,List.mem_map] at hx;obtain⟨y,hy,rfl⟩:=hx;exact h.2.2.2.2 y hy
 ·have:=h.2.2.2.1;simpa [bU,jI,ly] using this
 ·have h1:=h.2.2.1;have e:((es.map (ly zp)).toArray.toList.map (·.key))=(es.map (·.1)).map zp:=by simp[bU,jI,ly]
  rw[e];exact List.Pairwise.map zp (λa b wM e=>wM (by cases e;rfl)) h1
 ·intro x hx;simp only[cR,List.mem_map] at hx;obtain⟨y,hy,rfl⟩:=hx;exact⟨_,jv y hy⟩
 ·show ba _=_
  rw[(ye _).length_eq];simp
 ·show(List.map _ _).Perm _
  refine((ye _).map _).trans ?_;rw[aiQ,bU];rfl
def mW (ks:List Int):List Int:=ks.mergeSort λx y=>decide (x<=y)
theorem mg (ks:List Int):(mW ks).Perm ks:=List.mergeSort_perm _ _
theorem Z3 (ks:List Int):(mW ks).Pairwise λx y=>x<=y:=by
 have:=List.pairwise_mergeSort (le:=λx y:Int=>decide (x<=y)) (λa b c h1 h2=>by grind) (λa b=>by grind) ks;exact this.imp λh=>by grind
theorem RG: ∀{l l':List Int},l.Perm l'->l.Pairwise (λa b=>a<=b)->l'.Pairwise (λa b=>a<=b)->l=l'
 |[],l',hp,_,_=>(List.Perm.nil_eq hp)
 |a::l,[],hp,_,_=>absurd hp.length_eq sQ
 |a::l,b::l',hp,h1,h2=>by
  have Ke:=List.pairwise_cons.1 h1;have h2':=List.pairwise_cons.1 h2;have wM:a=b:=by
   have ha:a∈b::l':=hp.mem_iff.1 sQ;have hb:b∈a::l:=hp.mem_iff.2 sQ;rcases List.mem_cons.1 ha with e|ha
   ·exact e
   ·rcases List.mem_cons.1 hb with e|hb
    ·exact e.symm
    ·have:=Ke.1 b hb;have:=h2'.1 a ha;omega
  subst wM;rw[RG (List.Perm.cons_inv hp) Ke.2 h2'.2]
def aiZ {ks ks':List Int} (h:ks.Perm ks'):mW ks=mW ks':=RG (((mg ks).trans h).trans (mg ks').symm) (Z3 _) (Z3 _)
def ai0 (m:Nat):AnyZI.SortsIn pg Tryz.Oq gp m:=
  ⟨λfc off cap ss W hH hblk gh=>callsIn_wide.2 (AnyM.slices_Sort_int Tryz.ajL fc off cap ss W hH hblk gh),
   λp cap W=>callsIn_wide.2 (AnyM.slices_Sort_int_none Tryz.ajL p cap W)⟩
theorem Uw {g:FuncId} {lb:Array Value} {α:Type} {rd:World->XS->Value->α->Prop} {l:List (Int×α)} (h:dM w X A mb zp rd l) (eg:enters pg g=true)
  (hs: ∀x∈l,-(2^63)<=x.1/\x.1<2^63) (hl:l.length<=2^40)
  (hg: ∀wa,Kp X w wa-> ∀(nn:Nat) (D0:DataW Unit),wa.ownsMap pg 3 RT mb nn D0->SeqGives gp 2 pg g lb encZ (λss=>ss.Perm (intKeys D0)) (Maps.size D0) wa):
  Ct pg 120 #[.func (.func g) #[] lb] w X nX λv wa w'=>Own w' (made wa w') wa.heap.size 3 1 v ((mW (l.map (·.1))).map I1):=by
 intro wa hk;obtain⟨es,c,h1,h2⟩:=h;have Cf:=h2.keys;have hlen:es.length=l.length:=by have:=congrArg ba Cf;simpa using this
 obtain⟨D0,uV,gh,RC⟩:=Z2 (P:=pg) (h1.kp hk) (kt:=3) kQ (λx hx=>by
  have:x.1∈l.map (·.1):=by rw[<-Cf];exact List.mem_map.2 ⟨x,hx,rfl⟩
  obtain⟨y,hy,e⟩:=List.mem_map.1 this;rw[<-e];exact hs y hy) zQ
 have Hc:(2:Nat)^40<=maxLen:=by decide
 have hS:=callsIn_wide.1 (AnyZI.sorted_in Tryz.ak1 gp 5 trivial trivial trivial trivial rfl zQ (ai0 _) (λargs w=>oV kQ args w) g lb trivial (λargs w=>oV eg args w) _ _ zQ zQ wa (hg wa hk _ D0 uV));refine hS.mono ?_;rintro e w' ⟨v,ss,rfl,hp,bo,ahB,hb⟩;have hx:Ext wa w':=⟨hb.os,hb.tape,hb.output,hb.size,λk ah _=>hb.block k ah⟩;refine⟨v,rfl,hx,?_⟩;have e1:ss.mergeSort (λx y=>decide (x<=y))=mW (l.map (·.1)):=by
  refine aiZ (hp.trans (RC.trans ?_));rw[Cf]
 have e2:((ss.mergeSort (λx y=>decide (x<=y))).map encZ)=((mW (l.map (·.1))).map I1).flatten:=by
  rw[e1];have e3: ∀q:List Int,q.map encZ=(q.map I1).flatten:=λq=>by
   induction q with
   |nil=>rfl
   |cons a q ih=>simp only[bB,dd,<-ih];rfl
  exact e3 _
 have sh:ss.length=((mW (l.map (·.1))).map I1).length:=by
  rw[af,(mg _).length_eq,af,<-hlen];have:=hp.length_eq;rw[this,RC.length_eq,af]
 refine⟨λr hr=>by obtain⟨x,_,rfl⟩:=List.mem_map.1 hr;rfl,?_,λq hq=>⟨?_,?_⟩⟩
 ·rw[<-sh,<-e2];exact bo
 ·exact(bo.lt _ hq).1
 ·exact(bo.lt _ hq).2
theorem ak9:Ct pg 164 #[.map (some mb)] w X nX λv wa w'=> ∃bx,v= .func (.func 230) #[] #[ptr bx 0]/\aG w' (made wa w') bx [.map (some mb)] 281:=by
 intro w0 hk;refine tB.1 λhs=>?_;refine sP rfl hs.has λbx w1 X1 fY ax bo=>?_;repeat' refine ak ?_;intros
 exact bM ax λwa aH=>⟨bx,rfl,⟨fY,(bo.kp aH).lt⟩,(bo.kp aH).2⟩
theorem agv {bx:Nat} {α:Type} {rd:World->XS->Value->α->Prop} {l:List (Int×α)} (h:dM w X A mb zp rd l) (hb:aG w X bx [.map (some mb)] 281)
  (hs: ∀x∈l,-(2^63)<=x.1/\x.1<2^63) (hl:l.length<=2^40):
  Ct pg 120 #[.func (.func 230) #[] #[ptr bx 0]] w X nX λv wa w'=>Own w' (made wa w') wa.heap.size 3 1 v ((mW (l.map (·.1))).map I1):=
 Uw h kQ hs hl λwa hk nn D0 uV=>
  AnyZI.keys_gives (ρ:=Tryz.UM) { Tryz.apm with } gp _ trivial rfl zQ bx mb nn D0 wa (hb.kp hk).lt (by have:=(hb.kp hk).2;simp[World.cell?,this]) uV
abbrev GV:=List BA×Option Nat
abbrev GM:=List (Int×GV)
variable {e lo : Nat} {Y : XS}
def xy (h:Own w X lo e k v rows) (hs: ∀g,v.ownBlock=some g->Y g):Own w Y lo e k v rows:=⟨h.1,h.2.1,hs⟩
def M7 (h:Own w X lo e k v rows) (hm: ∀g,v.ownBlock=some g->Y g/\w'.heap[g]? =w.heap[g]?):Own w' Y lo e k v rows:=
 (xy h (Y:=λg=>v.ownBlock=some g) λg hg=>hg).mv λg hg _=>hm g hg
def Z4 {κ α:Type} [DecidableEq κ] {k:κ} {a:α} {l:List (κ×α)} :(k,a)∈cL k a l:=gA kj
theorem RH {κ α:Type} [DecidableEq κ] {k:κ} {a:α} : ∀{l:List (κ×α)} {y:κ×α},y∈l->y.1≠k->y∈cL k a l
 |x::l,y,h,hy=>by
  unfold cL;split
  ·rename_i hx;rcases List.mem_cons.1 h with rfl|h
   ·exact absurd hx hy
   ·exact bX _ h
  ·rcases List.mem_cons.1 h with rfl|h
   ·exact List.mem_cons_self
   ·exact bX _ (RH h hy)
theorem Cw {κ α:Type} [DecidableEq κ] {k:κ} {a:α} : ∀l:List (κ×α),(cL k a l).length<=l.length+1
 |[]=>by simp[cL]
 |x::l=>by
  have:=Cw (k:=k) (a:=a) l;unfold cL;split<;>simp[*]<;>omega
def Mq (lo:Nat) (w:World) (X:XS) (v:Value) (x:GV):Prop:=Own w X lo 9 1 v (x.1.map S1)/\v.ownBlock=x.2
def zA:qt (Mq lo):=λ_ _ _ _ _ _ h m=>⟨h.1.mv m,h.2⟩
def vW (gm:GM):XS:=λg=> ∃e∈gm,e.2.2=some g
def Z5 (gm:GM):Prop:= ∀e∈gm,∀e'∈gm,e.1≠e'.1-> ∀g,e.2.2=some g->e'.2.2≠some g
abbrev sH:GV:=([],none)
variable {g : Nat} {gm : GM}
theorem Jh {k:Int} (h:((getM k gm).getD sH).2=some g): ∃x,(k,x)∈gm/\x=(getM k gm).getD sH:=by
 cases hg:getM k gm with
 |none=>rw[hg] at h;cases h
 |some x=>exact⟨x,gA hg,rfl⟩
variable {sz : Nat}
theorem Z6 {k:Int} (h:dM w X A mb zp (Mq lo) gm) (n: ∀v,Mq lo w A v ((getM k gm).getD sH)->N v):
  aV pg X w (Instr.lookup 281 (.map (some mb)) (I k) false) N:=by
 refine lO (kt:=3) (et:=40) (kv:=zp) (.slice none 0 0) h xS kQ kQ (λv a hg hv=>n v ?_) (λhg=>n (.slice none 0 0) ?_)
 ·rw[hg];exact hv
 ·rw[hg];exact⟨Own.nil _ _ _ _ _,rfl⟩
theorem anP {k:Int} (h:kJ w X db mb ds) (n:N ((getM k ds).getD .zero).v):aV pg X w (Instr.lookup 222 (.map (some mb)) (I k) false) N:=by
 refine lO (kt:=3) (et:=48) (kv:=zp) dR.zero.v h.map xS kQ kQ (λv a hg hv=>?_) (λhg=>?_)
 ·simp only[F9] at hv;subst hv;rw[hg] at n;exact n
 ·rw[hg] at n;exact n
theorem Z5.put {k:Int} {x:GV} (hn:(gm.map (·.1)).Nodup) (h:Z5 gm) (cD: ∀g,vW gm g->g<sz) (hx: ∀g,x.2=some g->((getM k gm).getD sH).2=some g\/sz<=g):
  Z5 (cL k x gm)/\ ∀g,vW (cL k x gm) g->vW gm g\/x.2=some g:=by
 have key: ∀e'∈gm,e'.1≠k-> ∀g,x.2=some g->e'.2.2≠some g:=λe' Aj cA g hg rA=>by
  rcases hx g hg with h1|h1
  ·obtain⟨y,hy,e⟩:=Jh h1;exact h (k,y) hy e' Aj (λe=>cA e.symm) g (by rw[e];exact h1) rA
  ·have:=cD g ⟨e',Aj,rA⟩;omega
 refine⟨λe he e' Aj cA g hg=>?_,λg ⟨e,he,hg⟩=>?_⟩
 ·rcases mC hn he with rfl|⟨h1,h2⟩
  ·rcases mC hn Aj with rfl|⟨h3,h4⟩
   ·exact absurd rfl cA
   ·exact key e' h3 h4 g hg
  ·rcases mC hn Aj with rfl|⟨h3,h4⟩
   ·exact λrA=>key e h1 h2 g rA hg
   ·exact h e h1 e' h3 cA g hg
 ·rcases mC hn he with rfl|⟨h1,h2⟩
  ·exact .inr hg
  ·exact .inl ⟨e,h1,hg⟩
def iV (ds:pc):List (Int×List BA)->List BA->List (Int×List BA)×Int
 |m,[]=>(m,0)
 |m,k::r=>if iM k then(match nv ds k with
  |none=>(m,8)
  |some g=>iV ds (if((getM g.id m).getD []).any (λx=>decide (k=x))then m else cL g.id (((getM g.id m).getD [])++[k]) m) r)else(m,10)
structure oA where
 oR:dR
 keys:List BA
def oA.rd (w:World) (X:XS) (l:List Value) (g:oA):Prop:= ∃v,l=g.oR.l++[v]/\Sl w X 1 v (g.keys.map S1)
def oA.mv:FZ oA.rd:=λ⟨v,h,h1⟩ m=>⟨v,h,h1.mv m⟩
def mD (ds:pc) (m:List (Int×List BA)):List oA:=(mW (m.map (·.1))).map λid=>⟨(getM id ds).getD .zero,(getM id m).getD []⟩
def zB (gm:GM):List (Int×List BA):=gm.map λe=>(e.1,e.2.1)
theorem RI (k:Int) (gm:GM):(getM k (zB gm)).getD []=((getM k gm).getD sH).1:=by
 rw[zB,ZM (λx:GV=>x.1)];cases getM k gm<;>rfl
theorem aeH (k:Int) (x:GV) (gm:GM):zB (cL k x gm)=cL k x.1 (zB gm):=PA (λx:GV=>x.1) k x gm
theorem abl (gm:GM):(zB gm).map (·.1)=gm.map (·.1):=by simp[zB,bU,jI]
theorem GZ {x:Nat} : ∀{n:Nat} {r:dR},zz ds x n=some r-> ∃j:Nat,1<=j/\j<=n/\getM (j:Int) ds=some r/\dR.R4 r x=true
 |0,r,h=>by cases h
 |n+1,r,h=>by
  rw[zz] at h;cases hg:getM ((n+1:Nat):Int) ds with
  |none=>
   rw[hg] at h;obtain⟨j,h1,h2,h3⟩:=GZ h;exact⟨j,h1,by omega,h3⟩
  |some q=>
   rw[hg] at h;simp only at h;by_cases hq:dR.R4 q x=true
   ·rw[if_pos hq] at h;cases h;exact⟨n+1,by omega,by omega,hg,hq⟩
   ·rw[if_neg hq] at h;obtain⟨j,h1,h2,h3⟩:=GZ h;exact⟨j,h1,by omega,h3⟩
variable {r : dR}
theorem NM {k:BA} (h:nv ds k=some r): ∃j:Nat,1<=j/\j<=12/\getM (j:Int) ds=some r/\dR.R4 r (placeOf k)=true:=by
 unfold nv at h;split at h
 ·exact GZ h
 ·cases h
theorem NO {keys:List BA} (h:kJ w X db mb ds) (hW: ∀(i:Int) (r:dR),getM i ds=some r->r.id=i) (ha:Sl w X 1 a (keys.map S1)) (hl:keys.length<=2^30) (gh: ∀k∈keys,k.size<=2^62):
  Ct pg 111 #[ptr db 0,a] w X nX λv wa w'=>if(iV ds [] keys).2≠0 then v= .tuple #[.slice none 0 0,I (iV ds [] keys).2] else∃vl,v= .tuple #[vl,I 0]/\fp w' (made wa w') 5 vl oA.rd (mD ds (iV ds [] keys).1):=by
 intro w0 hk;replace h:=h.mv hk.bY;replace ha:=ha.mv hk.bY;generalize hR:iV ds [] keys=R;refine Pm.1 λhs=>?_;refine ri (kv:=zp) (Mq w0.heap.size) nX hs.has λgb w1 X1 hgb ax qp=>?_;have KQ:dM w1 X1 (vW []) gb zp (Mq w0.heap.size) []:=qp.mv zA (Mv.sub λ_ h=>h) λk h=>h.elim;replace hs:=hs.trans ax;have rK:=ha.mv hs.mv;repeat' refine ak ?_;intros
 refine eY (λn a w X=> ∃(i:Nat) (gm:GM),a=I i/\n=keys.length-i/\i<=keys.length/\ai (bI w0) w0 X w/\dM w X (vW gm) gb zp (Mq w0.heap.size) gm/\(∀g,vW gm g->X g/\w0.heap.size<=g/\g≠gb)/\Z5 gm/\
  (∀e∈gm,1<=e.1/\e.1<=12/\e.2.1.length<=i)/\gm.length<=i/\R=iV ds (zB gm) (keys.drop i)) keys.length ⟨0,[],rfl,rfl,aq _,hs,KQ,λg ⟨e,he,_⟩=>absurd he sQ,λe he=>absurd he sQ,λe he=>absurd he sQ,au _,hR.symm⟩ ?_
 clear hs ax qp KQ rK hR;rintro n _ w X ⟨i,gm,rfl,rfl,hi,hs,hm,H6,aeI,hlen,gW,hw⟩;have rK:=ha.mv hs.mv;rcases dE (keys) i with⟨cD,k,hx,hd⟩|⟨dD,hd⟩
 ·rw[hd,iV] at hw;repeat' first|refine aJ ?_;intros|with_reducible apply cB
  refine rL (kX k) kQ hs.has λw1' X1' ax=>?_;replace hm:=hm.mv zA ax.mv (ax.gU λg hg=>(H6 g hg).1);replace H6: ∀g,vW gm g->X1' g/\w0.heap.size<=g/\g≠gb:=λg hg=>⟨ax.sub g (H6 g hg).1,(H6 g hg).2⟩;replace hs:=hs.trans ax;clear ax rK;by_cases hg:iM k=true
  ·rw[if_pos hg] at hw;rw[hg];repeat' refine ak ?_;intros
   refine dL (abk (h.mv hs.mv) (gh k (ay hx))) kQ hs.has λw2 X2 bp=>?_;cases hr:nv ds k with
   |none=>
    rw[hr] at hw;simp only at hw;replace hs:=hs.trans bp;simp only[Option.getD_none,Option.isSome_none];repeat' first|refine ak ?_;intros|(refine qr ?_;intro wa hk;(rw[hw];simp))
   |some r=>
    rw[hr] at hw;simp only at hw;simp only[Bn,Option.isSome_some];obtain⟨j,hj1,hj2,hj3,hj4⟩:=NM hr;have sR:1<=r.id/\r.id<=12:=by have:=hW _ _ hj3;omega
    rw[RI] at hw;have rl:=hm.mv zA bp.mv (bp.gU λg hg=>(H6 g hg).1);have Z7: ∀g,vW gm g->X2 g/\w0.heap.size<=g/\g≠gb:=λg hg=>⟨bp.sub g (H6 g hg).1,(H6 g hg).2⟩;clear hm H6;replace hs:=hs.trans bp;clear bp;repeat' refine ak ?_;intros
    refine Z6 rl λv hv=>?_;have mu:(((getM r.id gm).getD sH).1).length<=i:=by
     cases Jw:getM r.id gm with
     |none=>simp
     |some x=>exact(hlen _ (gA Jw)).2.2
    have Mh:=hv.1.mono λg hg=>(Z7 g hg).1;refine dL (uX Mh.sl) kQ hs.has λw3 X3 cY=>?_;have qo:=rl.mv zA cY.mv (cY.gU λg hg=>(Z7 g hg).1);have pE: ∀g,vW gm g->X3 g/\w0.heap.size<=g/\g≠gb:=λg hg=>⟨cY.sub g (Z7 g hg).1,(Z7 g hg).2⟩;clear rl Z7 hv Mh;replace hs:=hs.trans cY;clear cY;by_cases hc:(((getM r.id gm).getD sH).1.any λx=>decide (k=x))=true
    ·rw[if_pos hc] at hw;rw[hc];repeat' first|refine ak ?_;intros|((with_reducible refine ep ((keys).length-(i+1)) ?_ ?_);omega;exact⟨i+1,gm,by simp,rfl,by omega,hs,qo,pE,aeI,λe he=>by have:=hlen e he;omega,by omega,hw⟩)
    ·rw[if_neg hc] at hw;rw[Bool.eq_false_iff.2 hc];repeat' refine ak ?_;intros
     refine Z6 qo λv hv=>?_;have Mh:=hv.1.mono λg hg=>(pE g hg).1;have Th: ∀g,vW gm g->g<w3.heap.size:=λg hg=>hs.has g (pE g hg).1;have aeJ:=hs;have Kb: ∀{Z8:World} {X3':XS} {s:Value},ai X3 w3 X3' Z8->Sl Z8 X3' 1 s [[.string k]]->
       eV pg (uF nX w0 λv w'=>if R.snd≠0 then v=dr #[tj none 0 0,I R.snd] else∃vl,v=dr #[vl,I 0]/\fp w' (made w0 w') 5 vl oA.rd (mD ds R.fst)) X3' Z8 true (ga 40 9 1 16 40 v s) λx48 arD arE=>
        eU pg (uF nX w0 λv w'=>if R.snd≠0 then v=dr #[tj none 0 0,I R.snd] else∃vl,v=dr #[vl,I 0]/\fp w' (made w0 w') 5 vl oA.rd (mD ds R.fst)) arE arD true (cK 281 (.map (some gb)) (I r.id) x48) λx anQ anR=>
         aV pg anR anQ (binOp .add 3 (I i) (I 1)) λx49=>Et (J1 λn a w X=> ∃(i:Nat) (gm:GM),a=I i/\n=keys.length-i/\i<=keys.length/\ai (bI w0) w0 X w/\dM w X (vW gm) gb zp (Mq w0.heap.size) gm/\(∀g,vW gm g->X g/\w0.heap.size<=g/\g≠gb)/\Z5 gm/\
          (∀e∈gm,1<=e.1/\e.1<=12/\e.2.1.length<=i)/\gm.length<=i/\R=iV ds (zB gm) (keys.drop i)) (keys.length-i) x49 anQ anR:=λ{Z8} {X3'} {s} Z9 oC=>by
      have arG:=qo.mv zA Z9.mv (Z9.gU λg hg=>(pE g hg).1);have Hf:Mq w0.heap.size Z8 (vW gm) v ((getM r.id gm).getD sH):=zA _ _ _ _ _ _ hv (Z9.gU λg hg=>(pE g hg).1);have apr: ∀g,vW gm g->X3' g/\w0.heap.size<=g/\g≠gb:=λg hg=>⟨Z9.sub g (pE g hg).1,(pE g hg).2⟩;have aps: ∀g,vW gm g->g<Z8.heap.size:=λg hg=>aw (Th g hg) Z9.kp.size;replace Mh:=Mh.since Z9;have ajN:=hs.trans Z9;clear qo hv pE Th hs;have qo:=arG;have hv:=Hf;have pE:=apr;have Th:=aps;have hs:=ajN;refine qj (bytes:=16) (X0:=bI w0) Mh hs (λ_ h=>h) kQ oC (by simp[aK.one]) (by simp only[af,bR];omega) (by simp only[af,bR];omega) λv4 w4 X4 fV FJ EL arH=>?_;have hx4: ∀g,v4.ownBlock=some g->((getM r.id gm).getD sH).2=some g\/Z8.heap.size<=g:=λg hg=>by
       rcases arH with e|⟨g',e,dD⟩
       ·left;rw[<-hv.2,<-e,hg]
       ·right;rw[e] at hg;cases hg;exact dD
      have Ek:=aeI.put (k:=r.id) (x:=((((getM r.id gm).getD sH).1++[k]),v4.ownBlock)) qo.nodup Th hx4;have hblk: ∀g,fc v g->vW gm g:=λg hg=>by
       have hg:v.ownBlock=some g:=hg;rw[hv.2] at hg;obtain⟨y,hy,e⟩:=Jh hg;exact⟨_,hy,by rw[e];exact hg⟩
      have hva:Mq w0.heap.size w4 (λg=>v4.ownBlock=some g) v4 ((((getM r.id gm).getD sH).1++[k]),v4.ownBlock):=⟨Go.Proofs.YtgfijddlkhkopaaGreat.xy (by simpa using FJ) λg hg=>hg,rfl⟩;have Hc:aeh w4 X4 (vW (cL r.id ((((getM r.id gm).getD sH).1++[k]),v4.ownBlock) gm)) gb zp (Mq w0.heap.size) r.id gm:=dM.toX qo (λg hg _=>by
        have hg:g=gb:=hg;subst hg;exact⟨EL.sub _ qo.x.1,EL.block _ qo.x.1 λh=>(pE _ (hblk _ h)).2.2 rfl⟩) λy u hy cA jv=>⟨M7 jv.1 λg hg=>⟨⟨y,RH hy cA,jv.2.symm.trans hg⟩,EL.block g (pE g ⟨y,hy,jv.2.symm.trans hg⟩).1 λh=>by
       have h:v.ownBlock=some g:=h;rw[hv.2] at h;obtain⟨q,hq,e⟩:=Jh h;exact aeI _ hq y hy (λe'=>cA e'.symm) g (by rw[e];exact h) (jv.2.symm.trans hg)⟩,jv.2⟩
      have anS:Mq w0.heap.size w4 (vW (cL r.id ((((getM r.id gm).getD sH).1++[k]),v4.ownBlock) gm)) v4 ((((getM r.id gm).getD sH).1++[k]),v4.ownBlock):=⟨hva.1.mono λg hg=>⟨_,Z4,hg⟩,rfl⟩;have aeK: ∀g,vW (cL r.id ((((getM r.id gm).getD sH).1++[k]),v4.ownBlock) gm) g->X4 g/\w0.heap.size<=g/\g≠gb:=λg hg=>by
       rcases Ek.2 g hg with h1|h1
       ·exact⟨EL.sub g (pE g h1).1,(pE g h1).2⟩
       ·have h1:v4.ownBlock=some g:=h1;refine⟨FJ.2.2 g h1,(FJ.ge h1).1,λe=>?_⟩;rcases hx4 g h1 with h2|h2
        ·obtain⟨y,hy,e'⟩:=Jh h2;exact(pE g ⟨_,hy,by rw[e'];exact h2⟩).2.2 e
        ·have:=qo.x.2;omega
      refine af1 (k:=r.id) (kv:=zp) (kt:=3) (et:=40) Hc zA anS (λg hg=>⟨(aeK g hg).1,(aeK g hg).2.2⟩) xS kQ fV.has λw5 X5 EE xC=>?_;have sU:ai (bI w0) w0 X5 w5:=fV.dY EE λg hg e=>by have:g<w0.heap.size:=hg;omega
      have arI: ∀g,vW (cL r.id ((((getM r.id gm).getD sH).1++[k]),v4.ownBlock) gm) g->X5 g/\w0.heap.size<=g/\g≠gb:=λg hg=>⟨EE.sub g (aeK g hg).1,(aeK g hg).2⟩;have apt: ∀e∈cL r.id ((((getM r.id gm).getD sH).1++[k]),v4.ownBlock) gm,1<=e.1/\e.1<=12/\e.2.1.length<=i+1:=λe he=>by
       rcases mC qo.nodup he with rfl|⟨h1,_⟩
       ·exact⟨sR.1,sR.2,by simp only[aa,bR];omega⟩
       ·have:=hlen e h1;omega
      have atg:=Cw (k:=r.id) (a:=((((getM r.id gm).getD sH).1++[k]),v4.ownBlock)) gm;have hw5:R=iV ds (zB (cL r.id ((((getM r.id gm).getD sH).1++[k]),v4.ownBlock) gm)) (keys.drop (i+1)):=by rw[aeH];exact hw
      clear hs aeJ ajN hv Mh hva anS Hc qo pE Th FJ fV;repeat' first|refine ak ?_;intros|((with_reducible refine ep ((keys).length-(i+1)) ?_ ?_);omega;exact⟨i+1,_,by simp,rfl,by omega,sU,xC,arI,Ek.1,apt,by omega,hw5⟩)
     clear qo pE Th aeJ;repeat' first|(exact Kb (ax.less λ_ h=>h) ho.sl)|(with_reducible apply WX);(case hX=>exact hs.has);(case he=>kernel_rfl);(case ho=>first|rfl|assumption);(case hk=>rfl);intro acc w X ax ho|(refine And.intro ?_ ?_)
  ·rw[if_neg hg] at hw;rw[show iM k=false by simpa using hg];repeat' first|refine ak ?_;intros|(refine qr ?_;intro wa hk;(rw[hw];simp))
 ·rw[hd,iV] at hw;rw[hw];repeat' refine aJ ?_;intros
  refine cd ak9 kQ hs.has ?_;rintro _ wa w2 X2 ⟨bx,rfl,hb⟩ hle gn bp;have rl:=hm.mv zA bp.mv (bp.gU λg hg=>(H6 g hg).1);have Mn:=hs.trans bp;refine cd (agv rl (hb.mono gn) (λe he=>by have:=hlen e he;omega) (by have:ba gm<=i:=gW;omega)) kQ Mn.has ?_;rintro vs wb w3 X3 ho pV lT cY;have qo:=rl.mv zA cY.mv (cY.gU λg hg=>bp.sub g (H6 g hg).1);have pE: ∀g,vW gm g->X3 g/\w0.heap.size<=g:=λg hg=>⟨cY.sub g (bp.sub g (H6 g hg).1),(H6 g hg).2.1⟩;have hsB:=Mn.trans cY;have wT:Own w3 X3 w0.heap.size 3 1 vs ((mW (gm.map (·.1))).map I1):=ho.up lT (by have:=Mn.kp.size;omega);have Xx:(mW (gm.map (·.1))).length=gm.length:=by rw[(mg _).length_eq,af]
  rw[show mD ds (zB gm,(0:Int)).1=(mW (gm.map (·.1))).map λid=>(⟨(getM id ds).getD .zero,((getM id gm).getD sH).1⟩:oA)by simp only[mD,abl,RI]];generalize mW (gm.map (·.1))=ids at wT Xx⊢;clear hs bp cY Mn hm rl ho hb H6 rK;have hs:=hsB;have oC:=wT.sl;have arJ:ba gm<=i:=gW;repeat' refine ak ?_;intros
  have hlN:ids.length<=2^30:=by omega
  clear dD hd hw hlen gW aeI hi arJ;refine gv (λn a b w X=> ∃(j:Nat) (rows:List (List Value)),a=I j/\n=ids.length-j/\j<=ids.length/\ai (bI w0) w0 X w/\Own w X w0.heap.size 140 5 b rows/\rows.length=j/\(∀g,X3 g->X g/\w.heap[g]? =w3.heap[g]?)/\(∀g,b.ownBlock=some g-> ¬X3 g)/\
   ∀(q:Nat) (r:List Value),rows[q]? =some r-> ∃id v,ids[q]? =some id/\r=((getM id ds).getD .zero).l++[v]/\Sl w (vW gm) 1 v (((getM id gm).getD sH).1.map S1)) ids.length
   ⟨0,[],rfl,rfl,aq _,hs,Own.nil _ _ _ _ _,rfl,λg hg=>⟨hg,rfl⟩,nofun,λq r hr=>?_⟩ ?_
  ·cases hr
  clear hs;rintro n _ b w X ⟨j,rows,rfl,rfl,hj,hs,yF,qV,Mr,lJ,Cm⟩;have anU: ∀{Y:XS},(∀g,Y g->X3 g)->Mv Y w3 X w:=λhY g hg _=>Mr g (hY g hg);have BS:=wT.sl.mv (anU λg hg=>hg);have DX:=h.row.mv hs.mv;rcases dE ids j with⟨cD,id,hx,hd⟩|⟨dD,hd⟩
  ·repeat' refine aJ ?_;intros
   refine anP (h.mv hs.mv) ?_;refine Z6 (qo.mv zA (anU λg hg=>hg) λg hg _=>⟨hg,(Mr g (pE g hg).1).2⟩) λv hv=>?_;obtain⟨vb,vn,vc,rfl⟩:=hv.1.sl.form;have ov:aK.one (.slice vb vn vc)=true:=rfl;repeat' first|refine ak ?_;intros|(with_reducible apply Qd);(case hX=>exact hs.has);(case he=>kernel_rfl);(case hk=>rfl);intro acc w X ax ho;obtain⟨_,_,_,rfl⟩:=ho.sl.form;replace hs:=hs.trans ax
   refine qj (bytes:=56) (X0:=bI w0) (yF.since ax) hs (λ_ h=>h) kQ ho.sl (λr hr u hu=>?_) (by simp only[bR];omega) (by simp only[bR];omega) λv5 w5 X5 sU sW EE ua=>?_
   ·rw[av] at hr;subst hr;simp only[List.mem_cons,dq,or_false] at hu;rcases hu with rfl|rfl|rfl|rfl|rfl<;>first|rfl|exact ov
   have aeL: ∀g,X3 g->X5 g/\w5.heap[g]? =w3.heap[g]? :=λg hg=>⟨EE.sub g (ax.sub g (Mr g hg).1),(EE.block g (ax.sub g (Mr g hg).1) λe=>lJ g e hg).trans ((ax.kp.block g (Mr g hg).1).trans (Mr g hg).2)⟩;have arK: ∀g,v5.ownBlock=some g-> ¬X3 g:=λg hg hx3=>by
    rcases ua with e|⟨g',e,dD⟩
    ·exact lJ g (e▸hg) hx3
    ·rw[e] at hg;cases hg;have:=ax.has g (ax.sub g (Mr g hx3).1);omega
   have CK: ∀(q:Nat) (r:List Value),(rows++[((getM id ds).getD .zero).l++[.slice vb vn vc]])[q]? =some r-> ∃id v,ids[q]? =some id/\r=((getM id ds).getD .zero).l++[v]/\Sl w5 (vW gm) 1 v (((getM id gm).getD sH).1.map S1):=λq r hr=>by
    have xC: ∀{u:Value} {rs:List (List Value)},Sl w3 (vW gm) 1 u rs->Sl w5 (vW gm) 1 u rs:=λh=>h.mv λg hg _=>⟨hg,(aeL g (pE g hg).1).2⟩;rcases Nat.lt_trichotomy q rows.length with hq|hq|hq
    ·rw[List.getElem?_append_left hq] at hr;obtain⟨id',v',e1,e2,e3⟩:=Cm q r hr;exact⟨id',v',e1,e2,e3.mv λg hg _=>⟨hg,(aeL g (pE g hg).1).2.trans (Mr g (pE g hg).1).2.symm⟩⟩
    ·subst hq;rw[cZ (au _)] at hr;simp only[Nat.sub_self,List.getElem?_cons_zero,aj] at hr;exact⟨id,_,by rw[qV];exact hx,hr.symm,hv.1.sl.mv λg hg _=>⟨hg,(aeL g (pE g hg).1).2.trans (Mr g (pE g hg).1).2.symm⟩⟩
    ·rw[List.getElem?_eq_none oQ] at hr;cases hr
   replace hs:=sU;repeat' first|refine ak ?_;intros|((with_reducible refine fw (ids.length-(j+1)) ?_ ?_);omega;exact⟨j+1,_,by simp,rfl,by omega,sU,sW,by simp;omega,aeL,arK,CK⟩)
  ·repeat' refine aJ ?_;intros
   refine bM hs λEI aH=>?_;simp only[ne_eq,not_true_eq_false,if_false];refine⟨b,rfl,rows,(yF.kp aH).tight.sl,by rw[af];omega,λq r g hr hg=>?_⟩;obtain⟨id,v,e1,e2,e3⟩:=Cm q r hr;rw[List.getElem?_map,e1] at hg;cases hg;exact⟨v,e2,e3.mv λg hg _=>⟨⟨(pE g hg).2,aw (hs.has g (Mr g (pE g hg).1).1) aH.size⟩,aH.block g (Mr g (pE g hg).1).1⟩⟩
theorem ala {t:Nat} (h:Own w Y lo e k v rows) (hz:z=i) (hi:i<=rows.length) (ht:pg.underlying t=some (.slice (pg.elem t))) (hs:((pg.info? (pg.elem t)).map (·.size)).isSome=true)
  (n: ∀v',Own w Y lo e k v' (rows.take i)->N v'):aV pg X w (Instr.sliceAt t v none (some (.int .i64 z)) none) N:=by
 rcases h.row with⟨rfl,rfl⟩|⟨g,cap,cs,rfl,gw,bo,pL,iF,qi,uG⟩
 ·have h0:i=0:=by simpa using hi
  subst h0;exact KR hz (au _) ht hs (n _ (Own.nil _ _ _ _ _))
 ·have hr: ∀r∈rows,r.length=k:=h.1;refine KR hz zQ ht hs (n _ (Own.Hw (n:=i) bo gw (λr jP=>hr r (dN jP)) (by rw[aD];omega) zQ iF qi ?_));have h1:=congrArg (List.take (i*k)) uG;rw[List.take_take,Nat.min_eq_left (Nat.mul_le_mul_right k hi)] at h1;rw[h1];have KS:rows.flatten=(rows.take i).flatten++(rows.drop i).flatten:=by rw[<-dW,gY]
  have hl:((rows.take i).flatten).length=i*k:=by rw[lE (k:=k) λr jP=>hr r (dN jP),aD,Nat.min_eq_left hi]
  rw[KS,List.take_append_of_le_length zQ,aA zQ]
theorem ab5 (h:Own w X lo e k v rows) (hg:v.ownBlock=some g): ∃cs:List Value,w.heap[g]? =some (.cells cs.toArray e (0,0)):=by
 rcases h.row with⟨rfl,_⟩|⟨b,cap,cs,rfl,_,hr,_⟩
 ·cases hg
 ·simp only[Value.ownBlock,aj] at hg;subst hg;exact⟨cs,hr.2⟩
theorem agw {κ α:Type} [DecidableEq κ] {kv:κ->Value} {rd:World->XS->Value->α->Prop} {l:List (κ×α)} (h:Own w X lo e k v rows) (hm:dM w Y A b kv rd l):v.ownBlock≠some b:=λhg=>by
 obtain⟨cs,h1⟩:=ab5 h hg;obtain⟨es,c,h2,_⟩:=hm;rw[h2.2.1] at h1;cases h1
variable {cs : List Value}
theorem FQ {e':Nat} (h:Own w X lo e k v rows) (hr:aG w Y g cs e') (he:decide (e≠e')=true):v.ownBlock≠some g:=λhg=>by
 obtain⟨c,h1⟩:=ab5 h hg;rw[hr.2] at h1;simp only[aj,Obj.cells.injEq] at h1;exact of_decide_eq_true he h1.2.1.symm
def mZ:World->XS->Value->gL->Prop:=λ_ _ v x=>v=x.v
def kA:qt mZ:=λ_ _ _ _ _ _ h _=>h
abbrev runT:Nat:=295
abbrev anV:Nat:=97
structure iv (w:World) (N:XS) (rb sb wb:Nat) (xl:Value) (s:List gL) (wr:List (BA×gL)):Prop where
 row:aG w N rb [xl,.map (some sb),.map (some wb)] runT
 own:Own w N 0 anV 3 xl (s.reverse.map gL.l)
 map:dM w N nX wb Value.string mZ wr
variable {sb wb : Nat}
section
variable {N N' G : XS} {rb : Nat} {xl od : Value} {s s' : List gL} {wr oG : List (BA × gL)}
def iv.mv (h:iv w N rb sb wb xl s wr) (v:Mv N w N' w'):iv w' N' rb sb wb xl s wr:=⟨h.row.mv v,h.own.mv v,h.map.mv kA v λ_ h=>h.elim⟩
theorem iv.ne (h:iv w N rb sb wb xl s wr):wb≠rb:=h.map.eT h.row
def iv.ns (h:iv w N rb sb wb xl s wr):xl.ownBlock≠some rb/\xl.ownBlock≠some wb:=⟨FQ h.own h.row kQ,agw h.own h.map⟩
theorem lp {κ α:Type} [DecidableEq κ] {kv:κ->Value} {rd:World->XS->Value->α->Prop} {l:List (κ×α)} (h:dM w X A b kv rd l) (hb:Y b):dM w Y A b kv rd l:=by
 obtain⟨es,c,h1,h2⟩:=h;exact⟨es,c,⟨hb,h1.2⟩,h2⟩
theorem Ms {v:gL} (h:iv w N rb sb wb xl (v::s) wr) (hN:FX N X w):Ct pg 236 #[ptr rb 0] w X N λx wa w'=>x=v.v/\ ∃od,iv w' N rb sb wb od s wr:=by
 intro w0 hk;have hT:=hN.ft hk;replace h:=h.mv (hN.mv hk);have JD:=hN.kp hk;have bo:=h.row.mono λk ah=>(JD k ah).1;have oC:=(h.own.mono λk ah=>(JD k ah).1).sl;rw[uC] at oC;have hv:(s.reverse++[v])[s.reverse.length]? =some v:=by rw[cZ (au _)];simp
 have hlen:=oC.gR;simp only[aa,sG,bR] at hlen;have xx:(s.reverse++[v]).length=s.length+1:=by simp
 have hl3:s.reverse.length=s.length:=by simp
 obtain⟨q1,q2,q3,rfl⟩:=oC.form;refine Rq.1 λ_=>?_;repeat' refine ak ?_;intros
 have ho:=h.own;rw[uC] at ho;refine ala (i:=s.length) ho zQ (by rw[af];omega) kQ kQ λv2 ju=>?_;rw[<-List.map_take,ig hl3] at ju;obtain⟨t1,t2,t3,rfl⟩:=ju.sl.form;have ov2:aK.one (.slice t1 t2 t3)=true:=rfl;repeat' refine ak ?_;intros
 refine pM (o:=0) bo zQ kQ sQ rfl hT.s.has λw1 X1 c1 arL=>?_;have ea:=hT.dY (F':=N) c1 (λk ah=>by subst ah;exact h.row.1) λk ah=>.inl ah;have cA:=FQ ju h.row kQ;have h1:iv w1 N rb sb wb (.slice t1 t2 t3) s wr:=⟨⟨h.row.1,arL.2⟩,M7 ju λg hg=>⟨ju.2.2 g hg,c1.block g (JD g (ju.2.2 g hg)).1 λe=>cA (by rw[<-e];exact hg)⟩,
  (lp h.map (Y:=(· =wb)) rfl).mv kA (λg hg _=>by subst hg;exact⟨h.map.x.1,c1.block _ (JD _ h.map.x.1).1 h.ne⟩) λ_ h=>h.elim⟩
 repeat' refine ak ?_;intros
 exact ea.fin λwa aH=>⟨rfl,_,h1.mv (aH.iZ ea.bw)⟩
theorem Ji {v:gL} (h:iv w N rb sb wb xl s wr) (hN:FX N X w) (hl:s.length<=2^30):Ct pg 234 #[ptr rb 0,v.v] w X N λ_ wa w'=> ∃N' od,(∀k,N' k->N k\/made wa w' k)/\iv w' N' rb sb wb od (v::s) wr:=by
 intro w0 hk;have hT:=hN.ft hk;replace h:=h.mv (hN.mv hk);have JD:=hN.kp hk;have bo:=h.row.mono λk ah=>(JD k ah).1;have hs:=ai.init w0;refine Pq.1 λ_=>?_;repeat' first|refine ak ?_;intros|(with_reducible apply Qd);(case hX=>exact hs.has);(case he=>kernel_rfl);(case hk=>rfl);intro acc w X ax ho;obtain⟨_,_,_,rfl⟩:=ho.sl.form;replace hs:=hs.trans ax
 have ea:=hT.since ax;have arM:=ax.gU λk ah=>(JD k ah).1;have h1:=h.mv arM;refine Ec (bytes:=32) (h1.own.mono λk ah=>ax.sub k (JD k ah).1) ax.has (aq _) kQ ho.sl (λr hr u hu=>?_) (by simp only[bR,af,sG];omega) (by simp only[bR,af,sG];omega) λv5 w5 X5 EE sW ua=>?_
 ·rw[av] at hr;subst hr;simp only[List.mem_cons,dq,or_false] at hu;rcases hu with rfl|rfl|rfl<;>rfl
 obtain⟨t1,t2,t3,rfl⟩:=sW.sl.form;have Xq:=h1.ns;have aeM:aG w5 X5 rb [xl,.map (some sb),.map (some wb)] runT:=⟨EE.sub _ (ax.sub _ bo.1),(EE.block rb (ax.sub _ bo.1) λe=>Xq.1 e).trans h1.row.2⟩;have anW: ∀k,k=wb->X k:=λk e=>by subst e;exact ax.sub _ (JD _ h.map.x.1).1
 have apu:dM w5 (· =wb) nX wb Value.string mZ wr:=(lp h1.map (Y:=(· =wb)) rfl).mv kA (λg hg _=>⟨hg,EE.block g (anW g hg) λe=>by subst hg;exact Xq.2 e⟩) λ_ h=>h.elim;have iN:=ea.dY (F':=λk=>N k\/(tj t1 t2 t3).ownBlock=some k) EE (λk ah=>h1.own.2.2 k ah) λk ah=>by
  rcases ah with ah|ah
  ·exact .inl ah
  ·rcases ua with e|⟨g,e,dD⟩
   ·exact .inl (h1.own.2.2 k (by rw[<-e];exact ah))
   ·rw[e] at ah;cases ah;exact .inr ⟨sW.2.2 _ e,dD⟩
 clear hs ax ho;repeat' refine ak ?_;intros
 refine pM (o:=0) aeM zQ kQ sQ rfl iN.s.has λw6 X6 c6 AY=>?_;have arN:=FQ sW aeM kQ;have kc:=iN.dY (F':=λk=>N k\/(tj t1 t2 t3).ownBlock=some k) c6 (λk ah=>.inl (by subst ah;exact h.row.1)) λk ah=>.inl ah;have arO:Own w5 X5 0 anV 3 (.slice t1 t2 t3) ((v::s).reverse.map gL.l):=by rw[uC,aC];exact sW
 have h6:iv w6 (λk=>N k\/(tj t1 t2 t3).ownBlock=some k) rb sb wb (.slice t1 t2 t3) (v::s) wr:=⟨⟨.inl h.row.1,AY.2⟩,M7 arO λg hg=>⟨.inr hg,c6.block g (sW.2.2 g hg) λe=>arN (by rw[<-e];exact hg)⟩,
  (lp apu (Y:=(· =wb)) rfl).mv kA (λg hg _=>by subst hg;exact⟨.inl h.map.x.1,c6.block _ (EE.sub _ (anW _ rfl)) h1.ne⟩) λ_ h=>h.elim⟩
 skip
 exact kc.fin λwa aH=>⟨_,_,kc.js aH λ_ h=>h,h6.mv (aH.iZ kc.bw)⟩
def za (c:Int) (a b:gL):Except Int (List gL):=
 if c=11 then .ok [ZX (decide (Tf a b<0))] else if c=12 then .ok [ZX (decide (Tf a b=0))] else if c=15 then .ok [a,b]
 else if a.kind=2\/b.kind=2 then .error 23 else .ok [ZW (Tg c a.num b.num)]
theorem agx {c:Int} {a b:gL} (h:iv w N rb sb wb xl (b::a::s) wr) (hN:FX N X w) (hl:s.length<=2^20):
  ER pg 238 #[ptr rb 0,I c] w X N (λ_ wa w'=> ∃l N' od,za c a b= .ok l/\(∀k,N' k->N k\/made wa w' k)/\iv w' N' rb sb wb od (l++s) wr) (λch _ _=> ∃e,za c a b= .error e/\ch=vJ e):=by
 intro w0 hk;have hT:=hN.ft hk;replace h:=h.mv (hN.mv hk);refine Rr.1 λ_=>?_;refine hT.call (Ms h (hN.kp hk)) kQ (λ_ h=>h) λv Cv w1 X1 hq pa mB ea c1=>?_;obtain⟨rfl,ai1,h1⟩:=hq;have hN1:FX N X1 w1:=λk ah=>⟨ea.bw k (.inl ah),c1.has k (ea.bw k (.inl ah))⟩;replace ea:=ea.less (F':=N) λk ah=>.inl ah;have hs:=ai.eQ c1.has;repeat' refine ak ?_;intros
 refine ea.call (Ms h1 hN1) kQ (λ_ h=>h) λv vM w2 X2 hq kF jt dh c2=>?_;obtain⟨rfl,anX,h2⟩:=hq;have Qk:FX N X2 w2:=λk ah=>⟨dh.bw k (.inl ah),c2.has k (dh.bw k (.inl ah))⟩;replace dh:=dh.less (F':=N) λk ah=>.inl ah;clear hs h1 h;have hs:=ai.eQ c2.has;have D8: ∀{w3:World} {X3:XS} {N3:XS} {s3:List gL} {v:gL} {Ae:Value} {K:Value->World->XS->Prop},Ft w0 N w3 X3 N3->iv w3 N3 rb sb wb Ae s3 wr->s3.length<=2^30->
   (∀x w4 X4 N4 G1,Ft w0 N w4 X4 N4->iv w4 N4 rb sb wb G1 (v::s3) wr->K x w4 X4)->eC pg (ES N w0 (λ_ w'=> ∃l N' od,za c a b= .ok l/\(∀k,N' k->N k\/made w0 w' k)/\iv w' N' rb sb wb od (l++s) wr) (λch _=> ∃e,za c a b= .error e/\ch=vJ e)) X3 w3 true 234 #[ptr rb 0,v.v] K:=λq1 q2 q3 k=>by
  refine q1.call (Ji q2 (λk ah=>⟨q1.bw k ah,q1.s.has k (q1.bw k ah)⟩) q3) kQ (λ_ h=>h) λv zk w4 X4 hq tr oH fO c4=>?_;obtain⟨N4,G1,Uy,h4⟩:=hq;exact k _ _ _ _ _ (fO.less Uy) h4
 have tS: ∀{w3:World} {X3:XS} {N3:XS} {l:List gL} {Ae:Value} {x:Value},Ft w0 N w3 X3 N3->iv w3 N3 rb sb wb Ae (l++s) wr->za c a b= .ok l->
   fin (ES N w0 (λ_ w'=> ∃l N' od,za c a b= .ok l/\(∀k,N' k->N k\/made w0 w' k)/\iv w' N' rb sb wb od (l++s) wr) (λch _=> ∃e,za c a b= .error e/\ch=vJ e)) X3 w3 x:=λq1 q2 q3=>
  q1.xO λwa aH=>⟨_,_,_,q3,q1.js aH λ_ h=>h,q2.mv (aH.iZ q1.bw)⟩
 by_cases e1:c=11
 ·repeat' first|refine aJ ?_;intros|with_reducible apply cB
  refine rL (Gk a b) kQ hs.has λw3 X3 cY=>?_;have dU:=dh.since cY;have h3:=h2.mv (cY.gU λk ah=>(Qk k ah).1);replace hs:=hs.trans cY;by_cases hq:Tf a b<0;all_goals
   repeat' refine aJ ?_;intros
   refine rL (Mo _) kQ hs.has λw4 X4 fV=>?_;have fO:=dU.since fV;have h4:=h3.mv (fV.gU λk ah=>cY.sub k (Qk k ah).1);refine D8 fO h4 zQ λx w5 X5 N5 ai2 iN h5=>?_;have hz:=iN.s;clear hs;have hs:=ai.eQ iN.s.has;repeat' first|(exact tS (l:=[_]) iN h5 (by unfold za;simp[hq, *]))
 by_cases e2:c=12
 ·repeat' first|refine aJ ?_;intros|with_reducible apply cB
  refine rL (Gk a b) kQ hs.has λw3 X3 cY=>?_;have dU:=dh.since cY;have h3:=h2.mv (cY.gU λk ah=>(Qk k ah).1);replace hs:=hs.trans cY;by_cases hq:Tf a b=0;all_goals
   repeat' refine aJ ?_;intros
   refine rL (Mo _) kQ hs.has λw4 X4 fV=>?_;have fO:=dU.since fV;have h4:=h3.mv (fV.gU λk ah=>cY.sub k (Qk k ah).1);refine D8 fO h4 zQ λx w5 X5 N5 ai2 iN h5=>?_;have hz:=iN.s;clear hs;have hs:=ai.eQ iN.s.has;repeat' first|(exact tS (l:=[_]) iN h5 (by unfold za;simp[hq, *]))
 by_cases e3:c=15
 ·repeat' first|refine aJ ?_;intros|with_reducible apply cB
  refine D8 dh h2 zQ λx w5 X5 N5 ai2 iN h5=>?_;clear hs;have hs:=ai.eQ iN.s.has;repeat' refine ak ?_;intros
  refine D8 iN h5 (by simp only[aL];omega) λx w6 X6 N6 ath kc h6=>?_;clear hs;repeat' first|(exact tS (l:=[_,_]) kc h6 (by unfold za;rw[if_neg e1,if_neg e2,if_pos e3]))
 ·repeat' first|refine aJ ?_;intros|with_reducible apply cB
  refine dh.FP (VJ c a b) kQ (λ_ h=>h.elim) (λv yD w3 X3 hq pV lT dU c3=>?_) λch yD w3 X3 hq pV lT dU c3 wb pj=>dU.iY pj ⟨23,by unfold za;rw[if_neg e1,if_neg e2,if_neg e3,if_pos hq.1],hq.2⟩;obtain⟨hnt,rfl⟩:=hq;have h3:=h2.mv (c3.iZ λk ah=>⟨(Qk k ah).1,λh=>h.elim⟩);replace dU:=dU.less (F':=N) λk ah=>.inl ah;clear hs;have hs:=ai.eQ dU.s.has
  skip
  refine D8 dU h3 zQ λx w5 X5 N5 ai2 iN h5=>?_;clear hs;have hs:=ai.eQ iN.s.has;repeat' first|(exact tS (l:=[_]) iN h5 (by unfold za;rw[if_neg e1,if_neg e2,if_neg e3,if_neg hnt]))
end
def QY (r:dR):List Nat:=encI r.id++(encI r.iD++(GY r.lo++GY r.hi))
def zo (v:pz):List Nat:=lq v.aS++Jb v.val
def BZ (h:ku):List Nat:=wu h.key++iT zo h.mI
def yU (p:gu):List Nat:=nB p.aO++(lq p.aS++(iT wu p.reads++iT r6 p.writes))
def encS (s:State):List Nat:=QY s.range++(lq s.floor++(lq s.closed++(iT BZ s.iz++iT yU s.gX)))
theorem B9 {α:Type} {f:α->List Nat} {xs:List α} {x:α} (h:xs[i]? =some x):(encI xs.length).length+((xs.take i).map f).flatten.length+(f x).length<=(iT f xs).length:=by
 have h1:xs=xs.take i++(x::xs.drop (i+1)):=by
  obtain⟨hi,rfl⟩:=List.getElem?_eq_some_iff.1 h;rw[<-List.drop_eq_getElem_cons hi,gY]
 have h2:(iT f xs).length=(encI xs.length).length+((xs.take i).map f).flatten.length+((f x).length+((xs.drop (i+1)).map f).flatten.length):=by
  unfold iT;conv=>lhs;rw[h1]
  rw[aC,dW,<-h1];simp only[bB,dd,aa];omega
 omega
theorem O5 (x:Nat):(GY x).length=8:=by simp[GY]
theorem EY (n:Int):1<=(encI n).length:=by
 unfold encI pW;split<;>simp
theorem UW (x:KV):x.key.size<=(r6 x).length:=by
 have h1:=zX x.key;unfold r6;rw[aa];omega
variable {bs : List Nat} {vb : Value} {cb xb xo : Nat} {Z : XS}
theorem aaa {b:Bool} (h:Wr w X lo wb vb bs) (hc:Cells w Z cb 0 (kW wb)) (hx:Cells w Z xb xo [B b]) (hZ:uB Z X wb vb) (hb:bs.length<=2^38) (gw:lo<=w.heap.size):
  oc 188 #[ptr cb 0,ptr xb xo] w X lo wb vb bs (adV b):=by
 intro w0 hk;have dp:lo<=w0.heap.size:=ad gw hk.size;replace hc:=hc.mv (hZ.mv hk);replace hx:=hx.mv (hZ.mv hk);have hS:=WS.init (h.mv hk.bY);refine JV.1 λ_=>?_;have hs:=hS.s;repeat' refine ak ?_;intros
 refine hS.fA (abb hS.r zQ dp) kQ λjb w2 X2 bh ni=>?_
 skip
 exact bh.fin
theorem Du {x:Nat} (h:Wr w X lo wb vb bs) (hc:Cells w Z cb 0 (kW wb)) (hx:Cells w Z xb xo [.float .f64 x]) (hZ:uB Z X wb vb) (hb:bs.length<=2^38) (gw:lo<=w.heap.size):
  oc 190 #[ptr cb 0,ptr xb xo] w X lo wb vb bs (GY x):=by
 intro w0 hk;have dp:lo<=w0.heap.size:=ad gw hk.size;replace hc:=hc.mv (hZ.mv hk);replace hx:=hx.mv (hZ.mv hk);have hS:=WS.init (h.mv hk.bY);refine IU.1 λ_=>?_;have hs:=hS.s;repeat' refine ak ?_;intros
 refine hS.fA (Mi hS.r zQ dp) kQ λjb w2 X2 bh ni=>?_
 skip
 exact bh.fin
theorem VL (h:Wr w X lo wb vb bs) (hc:Cells w Z cb 0 (kW wb)) (hx:Cells w Z xb xo r.l) (hZ:uB Z X wb vb) (hb:bs.length<=2^36) (gw:lo<=w.heap.size):
  oc 263 #[ptr cb 0,ptr xb xo] w X lo wb vb bs (QY r):=by
 have e1:=fD r.id;have e2:=fD r.iD;have e3:=O5 r.lo;intro w0 hk;have dp:lo<=w0.heap.size:=ad gw hk.size;replace hc:=hc.mv (hZ.mv hk);replace hx:=hx.mv (hZ.mv hk);have hS:=WS.init (h.mv hk.bY);refine IX.1 λ_=>?_;have hs:=hS.s;repeat' refine ak ?_;intros
 refine hS.fA (jM hS.r (hc.mv hS.at) (Cells.mv aQ hS.at) hS.z (by(try simp only[aa]);omega) (ad dp hs.kp.size)) kQ λjb w X bh _=>?_;replace hs:=bh.s;repeat' refine ak ?_;intros
 refine bh.fA (jM bh.r (hc.mv bh.at) (Cells.mv aQ bh.at) bh.z (by(try simp only[aa]);omega) (ad dp hs.kp.size)) kQ λmU w X cr _=>?_;replace hs:=cr.s;repeat' refine ak ?_;intros
 refine cr.fA (Du cr.r (hc.mv cr.at) (Cells.mv aQ cr.at) cr.z (by(try simp only[aa]);omega) (ad dp hs.kp.size)) kQ λRz w X gZ _=>?_;replace hs:=gZ.s;repeat' refine ak ?_;intros
 refine gZ.fA (Du gZ.r (hc.mv gZ.at) (Cells.mv aQ gZ.at) gZ.z (by(try simp only[aa]);omega) (ad dp hs.kp.size)) kQ λvb5 w X nk _=>?_;replace hs:=nk.s
 skip
 unfold QY;simp only[ao] at nk;exact nk.fin
theorem RJ {x:pz} (h:Wr w X lo wb vb bs) (hc:Cells w Z cb 0 (kW wb)) (hx:Cells w Z xb xo x.l) (hZ:uB Z X wb vb) (hb:bs.length<=2^36) (gw:lo<=w.heap.size):
  oc 327 #[ptr cb 0,ptr xb xo] w X lo wb vb bs (zo x):=by
 have e1:=uL x.aS;intro w0 hk;have dp:lo<=w0.heap.size:=ad gw hk.size;replace hc:=hc.mv (hZ.mv hk);replace hx:=hx.mv (hZ.mv hk);have hS:=WS.init (h.mv hk.bY);refine GW.1 λ_=>?_;have hs:=hS.s;repeat' refine ak ?_;intros
 refine hS.fA (kh (s:=x.aS) hS.r (hc.mv hS.at) (Cells.mv aQ hS.at) hS.z (by(try simp only[aa]);omega) (ad dp hs.kp.size)) kQ λjb w X bh _=>?_;replace hs:=bh.s;repeat' refine ak ?_;intros
 refine bh.fA (Ds (v:=x.val) bh.r (hc.mv bh.at) (Cells.mv aQ bh.at) bh.z (by(try simp only[aa]);omega) (ad dp hs.kp.size)) kQ λmU w X cr _=>?_;replace hs:=cr.s
 skip
 unfold zo;simp only[ao] at cr;exact cr.fin
variable {va : Value}
theorem PE {xs:List BA} (h:Wr w X lo wb vb bs) (hc:Cells w Z cb 0 (kW wb)) (hx:Cells w Z xb xo [va]) (ha:Sl w Z 1 va (xs.map S1)) (hZ:uB Z X wb vb) (gw:lo<=w.heap.size) (hb:bs.length+(iT wu xs).length<=2^33):
  oc 267 #[ptr cb 0,ptr xb xo,.func (.func 268) #[ptr cb 0] #[]] w X lo wb vb bs (iT wu xs):=by
  intro w0 hk;have dp:lo<=w0.heap.size:=ad gw hk.size;replace hc:=hc.mv (hZ.mv hk);replace hx:=hx.mv (hZ.mv hk);replace ha:=ha.mv (hZ.mv hk);have hS:=WS.init (h.mv hk.bY);have kn:=ha.gR;refine IY.1 λ_=>?_;have hs:=hS.s;repeat' refine ak ?_;intros
  refine ij (λ(k:Value->World->XS->Prop)=> ∀w X jb,WS w0 vb w X lo wb jb (bs++encI xs.length)->k (I xs.length) w X) ?_ ?_
  ·intro w X jb bh;refine eY (λn' a w X=> ∃(i:Nat) (uO:Value),a=I i/\n'=xs.length-i/\i<=xs.length/\WS w0 vb w X lo wb uO (bs++encI xs.length++((xs.take i).map wu).flatten)) xs.length ⟨0,jb,rfl,rfl,aq _,by simpa using bh⟩ ?_;clear bh hS hs;rintro n' a w X ⟨i,uO,rfl,rfl,hi,hS⟩;have hs:=hS.s;rcases dE xs i with⟨cD,x,AA,hd⟩|⟨dD,hd⟩
   ·have fY:=B9 (f:=wu) AA;repeat' refine aJ ?_;intros
    refine ij (λ(k:World->XS->Prop)=>k w X) ?_ ?_
    ·repeat' refine ak ?_;intros
     refine CW ?_;refine hS.fA (Bj (s:=x) hS.r (hc.mv hS.at) (Cells.mv aQ hS.at) hS.z (by simp only[aa];omega) (ad dp hs.kp.size) (by have:=zX x;omega)) kQ λmU w3 X3 cr uE=>?_;replace hs:=cr.s;repeat' refine ak ?_;intros
     refine ep (xs.length-(i+1)) zQ ⟨i+1,mU,by simp,rfl,by omega,?_⟩;rw[lN AA,<-ao];exact cr
    ·intro K hK;repeat' first|refine ak ?_;intros|exact hK
   ·rw[aA dD] at hS;repeat' refine aJ ?_;intros
    rw[ao] at hS;exact hS.fin
  ·intro K hK;repeat' refine ak ?_;intros
   refine hS.fA (oY hS.r zQ dp) kQ λjb w2 X2 bh ni=>?_;replace hs:=bh.s
   skip
   exact hK _ _ _ bh
theorem Gm {xs:List Int} (h:Wr w X lo wb vb bs) (hc:Cells w Z cb 0 (kW wb)) (hx:Cells w Z xb xo [va]) (ha:Sl w Z 1 va (xs.map I1)) (hZ:uB Z X wb vb) (gw:lo<=w.heap.size) (hb:bs.length+(iT encI xs).length<=2^33):
  oc 186 #[ptr cb 0,ptr xb xo,.func (.func 183) #[ptr cb 0] #[]] w X lo wb vb bs (iT encI xs):=by
  intro w0 hk;have dp:lo<=w0.heap.size:=ad gw hk.size;replace hc:=hc.mv (hZ.mv hk);replace hx:=hx.mv (hZ.mv hk);replace ha:=ha.mv (hZ.mv hk);have hS:=WS.init (h.mv hk.bY);have kn:=ha.gR;refine DF.1 λ_=>?_;have hs:=hS.s;repeat' refine ak ?_;intros
  refine ij (λ(k:Value->World->XS->Prop)=> ∀w X jb,WS w0 vb w X lo wb jb (bs++encI xs.length)->k (I xs.length) w X) ?_ ?_
  ·intro w X jb bh;refine eY (λn' a w X=> ∃(i:Nat) (uO:Value),a=I i/\n'=xs.length-i/\i<=xs.length/\WS w0 vb w X lo wb uO (bs++encI xs.length++((xs.take i).map encI).flatten)) xs.length ⟨0,jb,rfl,rfl,aq _,by simpa using bh⟩ ?_;clear bh hS hs;rintro n' a w X ⟨i,uO,rfl,rfl,hi,hS⟩;have hs:=hS.s;rcases dE xs i with⟨cD,x,AA,hd⟩|⟨dD,hd⟩
   ·have fY:=B9 (f:=encI) AA;repeat' refine aJ ?_;intros
    refine ij (λ(k:World->XS->Prop)=>k w X) ?_ ?_
    ·repeat' refine ak ?_;intros
     refine CW ?_;refine hS.fA (jM (n:=x) hS.r (hc.mv hS.at) (Cells.mv aQ hS.at) hS.z (by simp only[aa];omega) (ad dp hs.kp.size)) kQ λmU w3 X3 cr uE=>?_;replace hs:=cr.s;repeat' refine ak ?_;intros
     refine ep (xs.length-(i+1)) zQ ⟨i+1,mU,by simp,rfl,by omega,?_⟩;rw[lN AA,<-ao];exact cr
    ·intro K hK;repeat' first|refine ak ?_;intros|exact hK
   ·rw[aA dD] at hS;repeat' refine aJ ?_;intros
    rw[ao] at hS;exact hS.fin
  ·intro K hK;repeat' refine ak ?_;intros
   refine hS.fA (oY hS.r zQ dp) kQ λjb w2 X2 bh ni=>?_;replace hs:=bh.s
   skip
   exact hK _ _ _ bh
variable {xs : List KV}
theorem JE (h:Wr w X lo wb vb bs) (hc:Cells w Z cb 0 (kW wb)) (hx:Cells w Z xb xo [va]) (ha:Sl w Z 4 va (xs.map KV.l)) (hZ:uB Z X wb vb) (gw:lo<=w.heap.size) (hb:bs.length+(iT r6 xs).length<=2^33):
  oc 191 #[ptr cb 0,ptr xb xo,.func (.func 192) #[ptr cb 0] #[]] w X lo wb vb bs (iT r6 xs):=by
  intro w0 hk;have dp:lo<=w0.heap.size:=ad gw hk.size;replace hc:=hc.mv (hZ.mv hk);replace hx:=hx.mv (hZ.mv hk);replace ha:=ha.mv (hZ.mv hk);have hS:=WS.init (h.mv hk.bY);have kn:=ha.gR;refine Fw.1 λ_=>?_;have hs:=hS.s;repeat' refine ak ?_;intros
  refine ij (λ(k:Value->World->XS->Prop)=> ∀w X jb,WS w0 vb w X lo wb jb (bs++encI xs.length)->k (I xs.length) w X) ?_ ?_
  ·intro w X jb bh;refine eY (λn' a w X=> ∃(i:Nat) (uO:Value),a=I i/\n'=xs.length-i/\i<=xs.length/\WS w0 vb w X lo wb uO (bs++encI xs.length++((xs.take i).map r6).flatten)) xs.length ⟨0,jb,rfl,rfl,aq _,by simpa using bh⟩ ?_;clear bh hS hs;rintro n' a w X ⟨i,uO,rfl,rfl,hi,hS⟩;have hs:=hS.s;rcases dE xs i with⟨cD,x,AA,hd⟩|⟨dD,hd⟩
   ·have fY:=B9 (f:=r6) AA;repeat' refine aJ ?_;intros
    refine ij (λ(k:World->XS->Prop)=>k w X) ?_ ?_
    ·repeat' refine ak ?_;intros
     refine CW ?_;refine hS.fA (VE (x:=x) hS.r (hc.mv hS.at) (Cells.mv aQ hS.at) hS.z (by simp only[aa];omega) (ad dp hs.kp.size) (by have:=UW x;omega)) kQ λmU w3 X3 cr uE=>?_;replace hs:=cr.s;repeat' refine ak ?_;intros
     refine ep (xs.length-(i+1)) zQ ⟨i+1,mU,by simp,rfl,by omega,?_⟩;rw[lN AA,<-ao];exact cr
    ·intro K hK;repeat' first|refine ak ?_;intros|exact hK
   ·rw[aA dD] at hS;repeat' refine aJ ?_;intros
    rw[ao] at hS;exact hS.fin
  ·intro K hK;repeat' refine ak ?_;intros
   refine hS.fA (oY hS.r zQ dp) kQ λjb w2 X2 bh ni=>?_;replace hs:=bh.s
   skip
   exact hK _ _ _ bh
theorem VM (h:Wr w X lo wb vb bs) (hc:Cells w Z cb 0 (kW wb)) (hx:Cells w Z xb xo [va]) (ha:Sl w Z 4 va (xs.map KV.l)) (hZ:uB Z X wb vb) (gw:lo<=w.heap.size) (hb:bs.length+(iT r6 xs).length<=2^33):
  oc 193 #[ptr cb 0,ptr xb xo,.func (.func 194) #[ptr cb 0] #[]] w X lo wb vb bs (iT r6 xs):=by
  intro w0 hk;have dp:lo<=w0.heap.size:=ad gw hk.size;replace hc:=hc.mv (hZ.mv hk);replace hx:=hx.mv (hZ.mv hk);replace ha:=ha.mv (hZ.mv hk);have hS:=WS.init (h.mv hk.bY);have kn:=ha.gR;refine GR.1 λ_=>?_;have hs:=hS.s;repeat' refine ak ?_;intros
  refine ij (λ(k:Value->World->XS->Prop)=> ∀w X jb,WS w0 vb w X lo wb jb (bs++encI xs.length)->k (I xs.length) w X) ?_ ?_
  ·intro w X jb bh;refine eY (λn' a w X=> ∃(i:Nat) (uO:Value),a=I i/\n'=xs.length-i/\i<=xs.length/\WS w0 vb w X lo wb uO (bs++encI xs.length++((xs.take i).map r6).flatten)) xs.length ⟨0,jb,rfl,rfl,aq _,by simpa using bh⟩ ?_;clear bh hS hs;rintro n' a w X ⟨i,uO,rfl,rfl,hi,hS⟩;have hs:=hS.s;rcases dE xs i with⟨cD,x,AA,hd⟩|⟨dD,hd⟩
   ·have fY:=B9 (f:=r6) AA;repeat' refine aJ ?_;intros
    refine ij (λ(k:World->XS->Prop)=>k w X) ?_ ?_
    ·repeat' refine ak ?_;intros
     refine CW ?_;refine hS.fA (ZJ (x:=x) hS.r (hc.mv hS.at) (Cells.mv aQ hS.at) hS.z (by simp only[aa];omega) (ad dp hs.kp.size) (by have:=UW x;omega)) kQ λmU w3 X3 cr uE=>?_;replace hs:=cr.s;repeat' refine ak ?_;intros
     refine ep (xs.length-(i+1)) zQ ⟨i+1,mU,by simp,rfl,by omega,?_⟩;rw[lN AA,<-ao];exact cr
    ·intro K hK;repeat' first|refine ak ?_;intros|exact hK
   ·rw[aA dD] at hS;repeat' refine aJ ?_;intros
    rw[ao] at hS;exact hS.fin
  ·intro K hK;repeat' refine ak ?_;intros
   refine hS.fA (oY hS.r zQ dp) kQ λjb w2 X2 bh ni=>?_;replace hs:=bh.s
   skip
   exact hK _ _ _ bh
theorem RK {xs:List pz} (h:Wr w X lo wb vb bs) (hc:Cells w Z cb 0 (kW wb)) (hx:Cells w Z xb xo [va]) (ha:Sl w Z 6 va (xs.map pz.l)) (hZ:uB Z X wb vb) (gw:lo<=w.heap.size) (hb:bs.length+(iT zo xs).length<=2^33):
  oc 326 #[ptr cb 0,ptr xb xo,.func (.func 327) #[ptr cb 0] #[]] w X lo wb vb bs (iT zo xs):=by
  intro w0 hk;have dp:lo<=w0.heap.size:=ad gw hk.size;replace hc:=hc.mv (hZ.mv hk);replace hx:=hx.mv (hZ.mv hk);replace ha:=ha.mv (hZ.mv hk);have hS:=WS.init (h.mv hk.bY);have kn:=ha.gR;refine D4.1 λ_=>?_;have hs:=hS.s;repeat' refine ak ?_;intros
  refine ij (λ(k:Value->World->XS->Prop)=> ∀w X jb,WS w0 vb w X lo wb jb (bs++encI xs.length)->k (I xs.length) w X) ?_ ?_
  ·intro w X jb bh;refine eY (λn' a w X=> ∃(i:Nat) (uO:Value),a=I i/\n'=xs.length-i/\i<=xs.length/\WS w0 vb w X lo wb uO (bs++encI xs.length++((xs.take i).map zo).flatten)) xs.length ⟨0,jb,rfl,rfl,aq _,by simpa using bh⟩ ?_;clear bh hS hs;rintro n' a w X ⟨i,uO,rfl,rfl,hi,hS⟩;have hs:=hS.s;rcases dE xs i with⟨cD,x,AA,hd⟩|⟨dD,hd⟩
   ·have fY:=B9 (f:=zo) AA;repeat' refine aJ ?_;intros
    refine ij (λ(k:World->XS->Prop)=>k w X) ?_ ?_
    ·repeat' refine ak ?_;intros
     refine CW ?_;refine hS.fA (RJ (x:=x) hS.r (hc.mv hS.at) (Cells.mv aQ hS.at) hS.z (by simp only[aa];omega) (ad dp hs.kp.size)) kQ λmU w3 X3 cr uE=>?_;replace hs:=cr.s;repeat' refine ak ?_;intros
     refine ep (xs.length-(i+1)) zQ ⟨i+1,mU,by simp,rfl,by omega,?_⟩;rw[lN AA,<-ao];exact cr
    ·intro K hK;repeat' first|refine ak ?_;intros|exact hK
   ·rw[aA dD] at hS;repeat' refine aJ ?_;intros
    rw[ao] at hS;exact hS.fin
  ·intro K hK;repeat' refine ak ?_;intros
   refine hS.fA (oY hS.r zQ dp) kQ λjb w2 X2 bh ni=>?_;replace hs:=bh.s
   skip
   exact hK _ _ _ bh
theorem RL {vv:Value} {x:ku} (h:Wr w X lo wb vb bs) (hc:Cells w Z cb 0 (kW wb)) (hx:Cells w Z xb xo (x.l vv)) (ha:Sl w Z 6 vv (x.mI.map pz.l)) (hZ:uB Z X wb vb) (gw:lo<=w.heap.size) (hb:bs.length+(BZ x).length<=2^33):
  oc 265 #[ptr cb 0,ptr xb xo] w X lo wb vb bs (BZ x):=by
 have e1:(BZ x).length=(wu x.key).length+(iT zo x.mI).length:=by simp[BZ]
 have e2:=zX x.key;replace ha:=λ{w1:World} (hk:Kp X w w1)=>ha.mv (hZ.mv hk);intro w0 hk;have dp:lo<=w0.heap.size:=ad gw hk.size;replace hc:=hc.mv (hZ.mv hk);replace hx:=hx.mv (hZ.mv hk);have hS:=WS.init (h.mv hk.bY);refine GU.1 λ_=>?_;have hs:=hS.s;replace ha:=ha hk;repeat' refine ak ?_;intros
 refine hS.fA (Bj hS.r (hc.mv hS.at) (Cells.mv aQ hS.at) hS.z zQ dp zQ) kQ λjb w X bh _=>?_;replace hs:=bh.s;repeat' refine ak ?_;intros
 refine bh.fA (RK bh.r (hc.mv bh.at) (Cells.mv aQ bh.at) (ha.mv bh.at) bh.z (ad dp hs.kp.size) (by simp only[aa];omega)) kQ λmU w X cr _=>?_
 skip
 unfold BZ;simp only[ao] at cr;exact cr.fin
variable {vr vw : Value}
theorem Gn {x:gu} (h:Wr w X lo wb vb bs) (hc:Cells w Z cb 0 (kW wb)) (hx:Cells w Z xb xo (x.l vr vw)) (h1:Sl w Z 1 vr (x.reads.map S1)) (h2:Sl w Z 4 vw (x.writes.map KV.l)) (hZ:uB Z X wb vb) (gw:lo<=w.heap.size) (hb:bs.length+(yU x).length<=2^33):
  oc 185 #[ptr cb 0,ptr xb xo] w X lo wb vb bs (yU x):=by
 have e1:(yU x).length=(nB x.aO).length+((lq x.aS).length+((iT wu x.reads).length+(iT r6 x.writes).length)):=by simp[yU]
 replace h1:=λ{w1:World} (hk:Kp X w w1)=>h1.mv (hZ.mv hk);replace h2:=λ{w1:World} (hk:Kp X w w1)=>h2.mv (hZ.mv hk);intro w0 hk;have dp:lo<=w0.heap.size:=ad gw hk.size;replace hc:=hc.mv (hZ.mv hk);replace hx:=hx.mv (hZ.mv hk);have hS:=WS.init (h.mv hk.bY);refine GQ.1 λ_=>?_;have hs:=hS.s;replace h1:=h1 hk;replace h2:=h2 hk;have o1:=h1.one;have o2:=h2.one;repeat' refine ak ?_;intros
 refine hS.fA (zx (s:=x.aO) hS.r (hc.mv hS.at) (Cells.mv aQ hS.at) hS.z (by(try simp only[aa]);omega) (ad dp hs.kp.size)) kQ λjb w X bh _=>?_;replace hs:=bh.s;repeat' refine ak ?_;intros
 refine bh.fA (kh (s:=x.aS) bh.r (hc.mv bh.at) (Cells.mv aQ bh.at) bh.z (by(try simp only[aa]);omega) (ad dp hs.kp.size)) kQ λmU w X cr _=>?_;replace hs:=cr.s;repeat' refine ak ?_;intros
 refine cr.fA (PE cr.r (hc.mv cr.at) (Cells.mv aQ cr.at) (h1.mv cr.at) cr.z (ad dp hs.kp.size) (by simp only[aa];omega)) kQ λRz w X gZ _=>?_;replace hs:=gZ.s;repeat' refine ak ?_;intros
 refine gZ.fA (JE gZ.r (hc.mv gZ.at) (Cells.mv aQ gZ.at) (h2.mv gZ.at) gZ.z (ad dp hs.kp.size) (by simp only[aa];omega)) kQ λvb5 w X nk _=>?_
 skip
 unfold yU;simp only[ao] at nk;exact nk.fin
theorem PF {xs:List ku} (h:Wr w X lo wb vb bs) (hc:Cells w Z cb 0 (kW wb)) (hx:Cells w Z xb xo [va]) (ha:qy w Z va xs) (hZ:uB Z X wb vb) (gw:lo<=w.heap.size) (hb:bs.length+(iT BZ xs).length<=2^33):
  oc 264 #[ptr cb 0,ptr xb xo,.func (.func 265) #[ptr cb 0] #[]] w X lo wb vb bs (iT BZ xs):=by
  intro w0 hk;have dp:lo<=w0.heap.size:=ad gw hk.size;replace hc:=hc.mv (hZ.mv hk);replace hx:=hx.mv (hZ.mv hk);replace ha:=ha.mv (hZ.mv hk);have hS:=WS.init (h.mv hk.bY);have kn:=fp.len ha;refine D2.1 λ_=>?_;have hs:=hS.s;repeat' refine ak ?_;intros
  refine ij (λ(k:Value->World->XS->Prop)=> ∀w X jb,WS w0 vb w X lo wb jb (bs++encI xs.length)->k (I xs.length) w X) ?_ ?_
  ·intro w X jb bh;refine eY (λn' a w X=> ∃(i:Nat) (uO:Value),a=I i/\n'=xs.length-i/\i<=xs.length/\WS w0 vb w X lo wb uO (bs++encI xs.length++((xs.take i).map BZ).flatten)) xs.length ⟨0,jb,rfl,rfl,aq _,by simpa using bh⟩ ?_;clear bh hS hs;rintro n' a w X ⟨i,uO,rfl,rfl,hi,hS⟩;have hs:=hS.s;rcases dE xs i with⟨cD,x,AA,hd⟩|⟨dD,hd⟩
   ·have fY:=B9 (f:=BZ) AA;repeat' refine aJ ?_;intros
    refine ij (λ(k:World->XS->Prop)=>k w X) ?_ ?_
    ·repeat' first|refine ak ?_;intros|((with_reducible apply Rw);assumption;(try (case hz=>rfl));(case hr=>exact qR);(try (case hz=>omega));(case ht=>kernel_rfl);(case hs=>kernel_rfl);intros)
     refine CW ?_;refine hS.fA (RL (x:=x) hS.r (hc.mv hS.at) (Cells.mv aQ hS.at) (Sl.mv aQ hS.at) hS.z (ad dp hs.kp.size) (by simp only[aa];omega)) kQ λmU w3 X3 cr uE=>?_;replace hs:=cr.s;repeat' refine ak ?_;intros
     refine ep (xs.length-(i+1)) zQ ⟨i+1,mU,by simp,rfl,by omega,?_⟩;rw[lN AA,<-ao];exact cr
    ·intro K hK;repeat' first|refine ak ?_;intros|exact hK
   ·rw[aA dD] at hS;repeat' refine aJ ?_;intros
    rw[ao] at hS;exact hS.fin
  ·intro K hK;repeat' refine ak ?_;intros
   refine hS.fA (oY hS.r zQ dp) kQ λjb w2 X2 bh ni=>?_;replace hs:=bh.s
   skip
   exact hK _ _ _ bh
theorem PG {xs:List gu} (h:Wr w X lo wb vb bs) (hc:Cells w Z cb 0 (kW wb)) (hx:Cells w Z xb xo [va]) (ha:qx w Z va xs) (hZ:uB Z X wb vb) (gw:lo<=w.heap.size) (hb:bs.length+(iT yU xs).length<=2^33):
  oc 266 #[ptr cb 0,ptr xb xo,.func (.func 185) #[ptr cb 0] #[]] w X lo wb vb bs (iT yU xs):=by
  intro w0 hk;have dp:lo<=w0.heap.size:=ad gw hk.size;replace hc:=hc.mv (hZ.mv hk);replace hx:=hx.mv (hZ.mv hk);replace ha:=ha.mv (hZ.mv hk);have hS:=WS.init (h.mv hk.bY);have kn:=fp.len ha;refine D3.1 λ_=>?_;have hs:=hS.s;repeat' refine ak ?_;intros
  refine ij (λ(k:Value->World->XS->Prop)=> ∀w X jb,WS w0 vb w X lo wb jb (bs++encI xs.length)->k (I xs.length) w X) ?_ ?_
  ·intro w X jb bh;refine eY (λn' a w X=> ∃(i:Nat) (uO:Value),a=I i/\n'=xs.length-i/\i<=xs.length/\WS w0 vb w X lo wb uO (bs++encI xs.length++((xs.take i).map yU).flatten)) xs.length ⟨0,jb,rfl,rfl,aq _,by simpa using bh⟩ ?_;clear bh hS hs;rintro n' a w X ⟨i,uO,rfl,rfl,hi,hS⟩;have hs:=hS.s;rcases dE xs i with⟨cD,x,AA,hd⟩|⟨dD,hd⟩
   ·have fY:=B9 (f:=yU) AA;repeat' refine aJ ?_;intros
    refine ij (λ(k:World->XS->Prop)=>k w X) ?_ ?_
    ·repeat' first|refine ak ?_;intros|((with_reducible apply Wc);assumption;(try (case hz=>rfl));(case hr=>exact qR);(try (case hz=>omega));(case ht=>kernel_rfl);(case hs=>kernel_rfl);intros)
     refine CW ?_;refine hS.fA (Gn (x:=x) hS.r (hc.mv hS.at) (Cells.mv aQ hS.at) (Sl.mv aQ hS.at) (Sl.mv aQ hS.at) hS.z (ad dp hs.kp.size) (by simp only[aa];omega)) kQ λmU w3 X3 cr uE=>?_;replace hs:=cr.s;repeat' refine ak ?_;intros
     refine ep (xs.length-(i+1)) zQ ⟨i+1,mU,by simp,rfl,by omega,?_⟩;rw[lN AA,<-ao];exact cr
    ·intro K hK;repeat' first|refine ak ?_;intros|exact hK
   ·rw[aA dD] at hS;repeat' refine aJ ?_;intros
    rw[ao] at hS;exact hS.fin
  ·intro K hK;repeat' refine ak ?_;intros
   refine hS.fA (oY hS.r zQ dp) kQ λjb w2 X2 bh ni=>?_;replace hs:=bh.s
   skip
   exact hK _ _ _ bh
variable {vh vp : Value}
theorem VN {x:State} (h:Wr w X lo wb vb bs) (hc:Cells w Z cb 0 (kW wb)) (hx:Cells w Z xb xo (x.l vh vp)) (h1:qy w Z vh x.iz) (h2:qx w Z vp x.gX) (hZ:uB Z X wb vb) (gw:lo<=w.heap.size) (hb:bs.length+(encS x).length<=2^33):
  oc 184 #[ptr cb 0,ptr xb xo] w X lo wb vb bs (encS x):=by
 have e1:(encS x).length=(QY x.range).length+((lq x.floor).length+((lq x.closed).length+((iT BZ x.iz).length+(iT yU x.gX).length))):=by simp[encS]
 replace h1:=λ{w1:World} (hk:Kp X w w1)=>qy.mv h1 (hZ.mv hk);replace h2:=λ{w1:World} (hk:Kp X w w1)=>qx.mv h2 (hZ.mv hk);intro w0 hk;have dp:lo<=w0.heap.size:=ad gw hk.size;replace hc:=hc.mv (hZ.mv hk);replace hx:=hx.mv (hZ.mv hk);have hS:=WS.init (h.mv hk.bY);refine IT.1 λ_=>?_;have hs:=hS.s;replace h1:=h1 hk;replace h2:=h2 hk;have o1:=h1.one;have o2:=h2.one;repeat' refine ak ?_;intros
 refine hS.fA (VL (r:=x.range) hS.r (hc.mv hS.at) (Cells.mv aQ hS.at) hS.z (by(try simp only[aa]);omega) (ad dp hs.kp.size)) kQ λjb w X bh _=>?_;replace hs:=bh.s;repeat' refine ak ?_;intros
 refine bh.fA (kh (s:=x.floor) bh.r (hc.mv bh.at) (Cells.mv aQ bh.at) bh.z (by(try simp only[aa]);omega) (ad dp hs.kp.size)) kQ λmU w X cr _=>?_;replace hs:=cr.s;repeat' refine ak ?_;intros
 refine cr.fA (kh (s:=x.closed) cr.r (hc.mv cr.at) (Cells.mv aQ cr.at) cr.z (by(try simp only[aa]);omega) (ad dp hs.kp.size)) kQ λRz w X gZ _=>?_;replace hs:=gZ.s;repeat' refine ak ?_;intros
 refine gZ.fA (PF gZ.r (hc.mv gZ.at) (Cells.mv aQ gZ.at) (h1.mv gZ.at) gZ.z (ad dp hs.kp.size) (by simp only[aa];omega)) kQ λvb5 w X nk _=>?_;replace hs:=nk.s;repeat' refine ak ?_;intros
 refine nk.fA (PG nk.r (hc.mv nk.at) (Cells.mv aQ nk.at) (h2.mv nk.at) nk.z (ad dp hs.kp.size) (by simp only[aa];omega)) kQ λvb6 w X UX _=>?_
 skip
 unfold encS;simp only[ao] at UX;exact UX.fin
def gf (r:Rec):List Nat:=encI r.kind++(
 if r.kind=1 then encS r.state
 else if r.kind=2\/r.kind=7\/r.kind=8 then encI r.n
 else if r.kind=3 then yU ⟨r.aO,r.aS,r.reads,r.writes⟩++iT encI r.parts
 else if r.kind=4 then nB r.aO++(adV r.jF++lq r.aS)
 else if r.kind=5 then lq r.aS
 else if r.kind=6 then GY r.rV++(encI r.n++lq r.aS)
 else if r.kind=9 then nB r.aO++(lq r.aS++iT encI r.parts)
 else if r.kind=10 then nB r.aO
 else if r.kind=11 then lq r.prev++(lq r.aS++(nB r.aO++iT r6 r.writes))
 else if r.kind=12 then lq r.aS++iT r6 r.wV
 else [])
variable {ty : TypeId} {o : Nat} {R : Ending -> World -> Prop}
theorem Jj {t o':Nat} {N:Value->World->XS->Prop} (h:aG w X b cs ty) (LY:o'=o) (ht:(P.info? t).map (·.size)=some sz)
  (hl:o+sz<=cs.length) (hv:v.cells.size=sz) (h1:v.cells.toList.all aK.one=true) (hX: ∀k,X k->k<w.heap.size) (he:bO cs o v.cells.toList=cs)
  (n: ∀w' X',ai X w X' w'->N undef w' X'):eU P R X w true (st1 t sz (ptr b o') v) N:=by
 refine FI h LY ht hl hv h1 hX λw' X' c hr=>n w' X' ⟨⟨c.os,c.tape,c.output,c.size,λk hk=>?_⟩,c.sub,c.has⟩;by_cases e:k=b
 ·subst e;rw[h.2,hr.2,he]
 ·exact c.block k hk e
variable {w0 : World}
theorem WS.ON {ti:Value} (hS:WS w0 ti w X lo wb vb bs) (hr:aG w X b cs ty) (hb:w0.heap.size<=b)
  (h1:decide (409≠ty)=true) (h2:decide (5≠ty)=true) (c:ee (λk=>k=b) X w X' w'):WS w0 ti w' X' lo wb vb bs:=by
 have cA:wb≠b:=hS.r.box.eT hr h1;refine⟨hS.s.dY c λq h0 hq=>?_,⟨⟨c.sub _ hS.r.box.1,by rw[c.block _ hS.r.box.1 λe=>cA e];exact hS.r.box.2⟩,Own.dY hS.r.ow c λg hg e=>Own.eT hS.r.ow hr h2 (by rw[hg,e])⟩,hS.v⟩;have:=h0.1;omega
variable {F : XS}
theorem _root_.Go.aK.aG.dY (h:aG w X b cs ty) (c:ee F X w X' w') (hn: ¬F b):aG w' X' b cs ty:=⟨c.sub _ h.1,by rw[c.block _ h.1 hn];exact h.2⟩
variable {vd vq : Value}
theorem abm {r:Rec} (h:Wr w X lo wb vb bs) (hc:Cells w Z cb 0 (kW wb)) (hx:aG w Z xb (r.l vr vw vp vq vh vd) 73) (dF:r.at w Z vr vw vp vq vh vd) (hZ:uB Z X wb vb) (gw:lo<=w.heap.size)
  (hb:bs.length+(gf r).length<=2^33):oc 134 #[ptr cb 0,ptr xb 0] w X lo wb vb bs (gf r):=by
 intro w0 hk;have dp:lo<=w0.heap.size:=ad gw hk.size;replace hc:=hc.mv (hZ.mv hk);replace hx:=hx.mv (hZ.mv hk);replace dF:=dF.mv (hZ.mv hk);obtain⟨a1,a2,a3,a4,a5,a6⟩:=dF;obtain⟨p1,n1,c1,rfl⟩:=a1.form;obtain⟨p2,n2,c2,rfl⟩:=a2.form;have bo:=hx;replace hx:=hx.cells;have hS:=WS.init (h.mv hk.bY);have e1:=fD r.kind;obtain⟨E,hE⟩: ∃E,E=gf r:=⟨_,rfl⟩;rw[<-hE] at hb⊢;unfold gf at hE;have hEl:(encI r.kind).length<=E.length:=by rw[hE,aa];omega
 refine Lt.1 λ_=>?_;have hs:=hS.s;repeat' refine ak ?_;intros
 refine hS.fA (jM hS.r (hc.mv hS.at) (Cells.mv aQ hS.at) hS.z zQ (ad dp hs.kp.size)) kQ λjb w X bh _=>?_;replace hs:=bh.s;repeat' refine ak ?_;intros
 refine ij (λ(k:World->XS->Prop)=> ∀w X mU,WS w0 vb w X lo wb mU (bs++E)->k w X) (λw X mU cr=>cr.fin) λK hK=>?_;repeat' first|refine ak ?_;intros|refine cM ?_ ?_<;>intros|with_reducible apply cB
 all_goals (repeat (first|rw[if_pos zQ] at hE|rw[if_neg zQ] at hE))
 all_goals (have hEb:=congrArg ba hE;simp only[aa] at hEb)
 ·refine bh.fA (VN (x:=r.state) bh.r (hc.mv bh.at) (Cells.mv aQ bh.at) (a5.mv bh.at) (a6.mv bh.at) bh.z (ad dp hs.kp.size) (by simp only[aa];omega)) kQ λmU w X cr _=>?_;have h9:=cr;rw[hE] at hK
  (try simp only[ao] at h9 hK)
  exact hK _ _ _ h9
 ·refine bh.fA (jM bh.r (hc.mv bh.at) (Cells.mv aQ bh.at) bh.z (by simp only[aa];omega) (ad dp hs.kp.size)) kQ λmU w X cr _=>?_;have h9:=cr;rw[hE] at hK
  (try simp only[ao] at h9 hK)
  exact hK _ _ _ h9
 ·refine bh.fA (jM bh.r (hc.mv bh.at) (Cells.mv aQ bh.at) bh.z (by simp only[aa];omega) (ad dp hs.kp.size)) kQ λmU w X cr _=>?_;have h9:=cr;rw[hE] at hK
  (try simp only[ao] at h9 hK)
  exact hK _ _ _ h9
 ·refine bh.fA (jM bh.r (hc.mv bh.at) (Cells.mv aQ bh.at) bh.z (by simp only[aa];omega) (ad dp hs.kp.size)) kQ λmU w X cr _=>?_;have h9:=cr;rw[hE] at hK
  (try simp only[ao] at h9 hK)
  exact hK _ _ _ h9
 ·have e2:(yU ⟨r.aO,r.aS,r.reads,r.writes⟩).length<=E.length:=by omega
  refine MN (l:=[I 0,I 0,I 0,I 0,I 0,I 0,.slice none 0 0,.slice none 0 0]) hs.has kQ λpb w3 X3 HF cY ajO=>?_;have cr:=bh.since cY;refine FI (o:=0) ajO rfl kQ sQ rfl rfl cY.has λw4 X4 c4 Ce=>?_;replace Ce:aG w4 X4 pb ((⟨r.aO,r.aS,r.reads,r.writes⟩:gu).l (.slice p1 n1 c1) (.slice p2 n2 c2)) 306:=Ce;have arP:w0.heap.size<=pb:=ad hs.kp.size HF;have gZ:=cr.ON ajO arP kQ kQ c4;have hnf: ¬DI wb jb pb:=λhf=>hf.elim (λe=>gZ.r.box.eT Ce kQ e.symm) λe=>Own.eT gZ.r.ow Ce kQ e;obtain⟨Z',hZ'⟩: ∃Z':XS,Z'=λk=>k=pb\/out (DI wb vb) w0 k:=⟨_,rfl⟩;have mv4:Mv (out (DI wb vb) w0) w0 Z' w4:=λk ah _=>⟨by rw[hZ'];exact .inr ah,gZ.s.kp.block k ah⟩;have tG:uB Z' X4 wb jb:=λk ah=>by
   rw[hZ'] at ah;rcases ah with rfl|ah
   ·exact⟨Ce.1,hnf⟩
   ·exact gZ.z k ah
  refine gZ.fA (Gn (x:=⟨r.aO,r.aS,r.reads,r.writes⟩) gZ.r (hc.mv mv4) (aG.cells (X:=Z') (ty:=306) ⟨by rw[hZ'];exact .inl rfl,Ce.2⟩) (a1.mv mv4) (a2.mv mv4) tG (ad dp gZ.s.kp.size) (by simp only[aa];omega)) kQ λvb5 w5 X5 nk c5=>?_;have aeM:=Ce.dY c5 hnf;clear hs;have hs:=nk.s;repeat' refine ak ?_;intros
  refine Jj (o:=1) (bo.mv nk.s.mv) zQ kQ sQ rfl rfl nk.s.has (by rfl) λw6 X6 qm=>?_;have UX:=nk.since qm;repeat' refine ak ?_;intros
  refine Jj (o:=4) (bo.mv UX.s.mv) zQ kQ sQ rfl rfl UX.s.has (by rfl) λw7 X7 oS=>?_;have hS7:=UX.since oS;repeat' refine ak ?_;intros
  refine Jj (o:=13) (bo.mv hS7.s.mv) zQ kQ sQ rfl rfl hS7.s.has (by rfl) λw8 X8 jZ=>?_;have hS8:=hS7.since jZ;repeat' refine ak ?_;intros
  refine Jj (o:=14) (bo.mv hS8.s.mv) zQ kQ sQ rfl rfl hS8.s.has (by rfl) λw9 X9 As=>?_;have hS9:=hS8.since As;clear hs;have hs:=hS9.s;repeat' refine ak ?_;intros
  refine hS9.fA (Gm hS9.r (hc.mv hS9.at) (Cells.mv aQ hS9.at) (a3.mv hS9.at) hS9.z (ad dp hs.kp.size) (by simp only[aa];omega)) kQ λati w X arQ _=>?_;have h9:=arQ;rw[hE] at hK
  (try simp only[ao] at h9 hK)
  exact hK _ _ _ h9
 ·refine bh.fA (zx (s:=r.aO) bh.r (hc.mv bh.at) (Cells.mv aQ bh.at) bh.z (by(try simp only[aa]);omega) (ad dp hs.kp.size)) kQ λmU w X cr _=>?_;replace hs:=cr.s;repeat' refine ak ?_;intros
  refine cr.fA (aaa (b:=r.jF) cr.r (hc.mv cr.at) (Cells.mv aQ cr.at) cr.z (by(try simp only[aa]);omega) (ad dp hs.kp.size)) kQ λRz w X gZ _=>?_;replace hs:=gZ.s;repeat' refine ak ?_;intros
  refine gZ.fA (kh (s:=r.aS) gZ.r (hc.mv gZ.at) (Cells.mv aQ gZ.at) gZ.z (by(try simp only[aa]);omega) (ad dp hs.kp.size)) kQ λvb5 w X nk _=>?_;replace hs:=nk.s
  skip
  have h9:=nk;rw[hE] at hK
  (try simp only[ao] at h9 hK)
  exact hK _ _ _ h9
 ·refine bh.fA (kh (s:=r.aS) bh.r (hc.mv bh.at) (Cells.mv aQ bh.at) bh.z (by(try simp only[aa]);omega) (ad dp hs.kp.size)) kQ λmU w X cr _=>?_;replace hs:=cr.s
  skip
  have h9:=cr;rw[hE] at hK
  (try simp only[ao] at h9 hK)
  exact hK _ _ _ h9
 ·refine bh.fA (Du bh.r (hc.mv bh.at) (Cells.mv aQ bh.at) bh.z (by(try simp only[aa]);omega) (ad dp hs.kp.size)) kQ λmU w X cr _=>?_;replace hs:=cr.s;repeat' refine ak ?_;intros
  refine cr.fA (jM cr.r (hc.mv cr.at) (Cells.mv aQ cr.at) cr.z (by(try simp only[aa]);omega) (ad dp hs.kp.size)) kQ λRz w X gZ _=>?_;replace hs:=gZ.s;repeat' refine ak ?_;intros
  refine gZ.fA (kh (s:=r.aS) gZ.r (hc.mv gZ.at) (Cells.mv aQ gZ.at) gZ.z (by(try simp only[aa]);omega) (ad dp hs.kp.size)) kQ λvb5 w X nk _=>?_;replace hs:=nk.s
  skip
  have h9:=nk;rw[hE] at hK
  (try simp only[ao] at h9 hK)
  exact hK _ _ _ h9
 ·refine bh.fA (zx (s:=r.aO) bh.r (hc.mv bh.at) (Cells.mv aQ bh.at) bh.z (by(try simp only[aa]);omega) (ad dp hs.kp.size)) kQ λmU w X cr _=>?_;replace hs:=cr.s;repeat' refine ak ?_;intros
  refine cr.fA (kh (s:=r.aS) cr.r (hc.mv cr.at) (Cells.mv aQ cr.at) cr.z (by(try simp only[aa]);omega) (ad dp hs.kp.size)) kQ λRz w X gZ _=>?_;replace hs:=gZ.s;repeat' refine ak ?_;intros
  refine gZ.fA (Gm gZ.r (hc.mv gZ.at) (Cells.mv aQ gZ.at) (a3.mv gZ.at) gZ.z (ad dp hs.kp.size) (by simp only[aa];omega)) kQ λvb5 w X nk _=>?_;have h9:=nk;rw[hE] at hK
  (try simp only[ao] at h9 hK)
  exact hK _ _ _ h9
 ·refine bh.fA (zx (s:=r.aO) bh.r (hc.mv bh.at) (Cells.mv aQ bh.at) bh.z (by(try simp only[aa]);omega) (ad dp hs.kp.size)) kQ λmU w X cr _=>?_;replace hs:=cr.s
  skip
  have h9:=cr;rw[hE] at hK
  (try simp only[ao] at h9 hK)
  exact hK _ _ _ h9
 ·refine bh.fA (kh (s:=r.prev) bh.r (hc.mv bh.at) (Cells.mv aQ bh.at) bh.z (by(try simp only[aa]);omega) (ad dp hs.kp.size)) kQ λmU w X cr _=>?_;replace hs:=cr.s;repeat' refine ak ?_;intros
  refine cr.fA (kh (s:=r.aS) cr.r (hc.mv cr.at) (Cells.mv aQ cr.at) cr.z (by(try simp only[aa]);omega) (ad dp hs.kp.size)) kQ λRz w X gZ _=>?_;replace hs:=gZ.s;repeat' refine ak ?_;intros
  refine gZ.fA (zx (s:=r.aO) gZ.r (hc.mv gZ.at) (Cells.mv aQ gZ.at) gZ.z (by(try simp only[aa]);omega) (ad dp hs.kp.size)) kQ λvb5 w X nk _=>?_;replace hs:=nk.s;repeat' refine ak ?_;intros
  refine nk.fA (JE nk.r (hc.mv nk.at) (Cells.mv aQ nk.at) (a2.mv nk.at) nk.z (ad dp hs.kp.size) (by simp only[aa];omega)) kQ λvb6 w X UX _=>?_;have h9:=UX;rw[hE] at hK
  (try simp only[ao] at h9 hK)
  exact hK _ _ _ h9
 ·refine bh.fA (kh (s:=r.aS) bh.r (hc.mv bh.at) (Cells.mv aQ bh.at) bh.z (by(try simp only[aa]);omega) (ad dp hs.kp.size)) kQ λmU w X cr _=>?_;replace hs:=cr.s;repeat' refine ak ?_;intros
  refine cr.fA (VM cr.r (hc.mv cr.at) (Cells.mv aQ cr.at) (a4.mv cr.at) cr.z (ad dp hs.kp.size) (by simp only[aa];omega)) kQ λRz w X gZ _=>?_;have h9:=gZ;rw[hE] at hK
  (try simp only[ao] at h9 hK)
  exact hK _ _ _ h9
 ·rw[List.append_nil] at hE;have h9:=bh;rw[hE] at hK
  (try simp only[ao] at h9 hK)
  exact hK _ _ _ h9
def Rec.fI (r:Rec):Int:=if r.err≠0 then r.err else if 262144<(gf r).length then 2 else 0
theorem Dm {r:Rec} (h:r.at w X vr vw vp vq vh vd) (lX:r.small) (mO:r.err=0->(gf r).length<=2^33):
  Ct pg 136 #[r.v vr vw vp vq vh vd] w X nX λv wa w'=>if r.fI≠0 then v= .tuple #[.slice none 0 0,I r.fI] else∃vb,v= .tuple #[vb,I 0]/\Own w' (made wa w') wa.heap.size 5 1 vb ((gf r).map U1):=by
 intro w0 hk;replace h:=h.mv hk.bY;refine SM.1 λhs=>?_;repeat' first|refine ak ?_;intros|refine cM ?_ ?_<;>intros|(refine NV hs ?_;intro bx w X fY ax fv hs bo)|(refine dL (aez (r:=r) (h.mv (fv.trans hs).mv) lX) kQ hs.has λw X ax=>?_;replace hs:=hs.trans ax)|(refine qr ?_;intro wa hk;(have e:r.fI=r.err:=if_pos aQ;rw[e,if_pos aQ]))
 ·have FC:r.err=0:=by assumption
  refine cd Py kQ hs.has ?_;rintro v wa w2 X2 ⟨wb,rfl,hW⟩ hle gn bp;have Mn:=fv.trans (hs.trans bp);have lL:=bo.lt;have WL:=hs.kp.size;refine aed kQ ?_;refine AZ Mn.has λcb w3 X3 hcb cY QO=>?_;have hsB:=Mn.trans cY;have MD:=(bo.since (hs.trans bp)).since cY;obtain⟨Z,hZd⟩: ∃Z:XS,Z=λk=>k=bx\/k=cb\/bI w0 k:=⟨_,rfl⟩;have atj:wa.heap.size<=wb/\wb<w2.heap.size:=hW.box.1;have hZ:uB Z X3 wb (.slice none 0 0):=λk ah=>by
   rw[hZd] at ah;refine⟨?_,λhf=>?_⟩
   ·rcases ah with rfl|rfl|ah
    ·exact MD.1
    ·exact QO.1
    ·exact hsB.sub k ah
   ·rcases hf with hf|hf
    ·rcases ah with e|e|e
     ·omega
     ·omega
     ·have:k<w0.heap.size:=e;omega
    ·cases hf
  have hcC:Cells w3 Z cb 0 (kW wb):=aG.cells (ty:=249) ⟨by rw[hZd];exact .inr (.inl rfl),QO.2⟩;have hxC:aG w3 Z bx (r.l vr vw vp vq vh vd) 73:=⟨by rw[hZd];exact .inl rfl,MD.2⟩;have haC:r.at w3 Z vr vw vp vq vh vd:=h.mv λk ah hl=>⟨by rw[hZd];exact .inr (.inr ah),hsB.kp.block k ah⟩;have P5:Wr w3 X3 wa.heap.size wb (.slice none 0 0) []:=(hW.mv (Mv.sub gn)).mv cY.mv;refine yR (abm P5 hcC hxC haC hZ (by have:=cY.kp.size;omega) (by simpa using (mO FC))) kQ hsB.has (λq hq=>by
   rcases hq with rfl|hq
   ·exact P5.box.1
   ·cases hq) λv zk w4 X4 hq tr oH atk EL=>?_
  obtain⟨rfl,Mf,hW4⟩:=hq;have fV:=hsB.dY EL λk ah hf=>by
   have h0:k<w0.heap.size:=ah;rcases hf with hf|hf
   ·omega
   ·cases hf
  have hW5:Wr w4 X4 wa.heap.size wb Mf (gf r):=hW4.mv (Mv.sub λk ah=>by
   rcases ah with(ah|ah)|ah
   ·rw[ah];exact EL.sub _ P5.box.1
   ·cases ah
   ·exact oH k ah)
  refine cd (ZI hW5 zQ) kQ fV.has ?_;rintro v5 NU w5 X5 sW Im EC sU;have hsC:=fV.trans sU;have ho:Own w5 X5 w0.heap.size 5 1 v5 ((gf r).map U1):=sW.up EC (by have:=fV.kp.size;omega);clear hs fv;have hs:=hsC;have hl:(List.map U1 (gf r)).length=(gf r).length:=af _;repeat' first|refine ak ?_;intros|refine cM ?_ ?_<;>intros
  ·have e:r.fI=2:=by unfold Rec.fI;rw[if_neg zQ,if_pos zQ]
   exact bM hs λwb aH=>by rw[e,if_pos zQ]
  ·have e:r.fI=0:=by unfold Rec.fI;rw[if_neg zQ,if_neg zQ]
   exact bM hs λwb aH=>by
    rw[e,if_neg zQ];exact⟨v5,rfl,(ho.kp aH).tight⟩
def RM (n:Int):Bool:=(decide (n>=1)&&decide (n<=12))||(decide (n>20)&&decide (n<=22))||decide (n=31)||decide (n=32)
theorem Dv (n:Int):Pure pg 148 #[I n] (B (decide (n>=1)&&decide (n<=12))):=by
 intro w;refine SN.1 λ_=>?_;have hs:=ai.init w;repeat' first|refine ak ?_;intros|refine cM ?_ ?_<;>intros|(with_reducible refine fJ hs ?_);simp_all<;>omega
theorem abn (n:Int):Pure pg 97 #[I n] (B (RM n)):=by
 intro w;refine Y8.1 λ_=>?_;have hs:=ai.init w;repeat' first|refine ak ?_;intros|refine cM ?_ ?_<;>intros|(refine j5 (Dv _) hs ?_ ?_<;>intro _ w X hs)|(with_reducible refine fJ hs ?_);simp_all [RM]<;>omega
structure cO.at (w:World) (X:XS) (m:cO) (vk vs vw vp vr vc vh vd:Value):Prop where
 keys:Sl w X 1 vk (m.keys.map S1)
 seen:Sl w X 7 vs (m.seen.map fe.l)
 writes:Sl w X 4 vw (m.writes.map KV.l)
 parts:Sl w X 1 vp (m.parts.map I1)
 ranges:Sl w X 4 vr (m.ranges.map dR.l)
 bt:fp w X 29 vc Rec.rd m.bt
 iz:qy w X vh m.state.iz
 gX:qx w X vd m.state.gX
def cO.at.mv {m:cO} {vk vs vc:Value} (h:m.at w X vk vs vw vp vr vc vh vd) (v:Mv X w Y w'):m.at w' Y vk vs vw vp vr vc vh vd:=
 ⟨h.keys.mv v,h.seen.mv v,h.writes.mv v,h.parts.mv v,h.ranges.mv v,fp.mv h.bt Rec.mv v,fp.mv h.iz ku.mv v,fp.mv h.gX gu.mv v⟩
def cO.rd (w:World) (X:XS) (l:List Value) (m:cO):Prop:= ∃vk vs vw vp vr vc vh vd,l=m.l vk vs vw vp vr vc vh vd/\m.at w X vk vs vw vp vr vc vh vd
def cO.mv:FZ cO.rd:=λ⟨vk,vs,vw,vp,vr,vc,vh,vd,h,h1⟩ m=>⟨vk,vs,vw,vp,vr,vc,vh,vd,h,h1.mv m⟩
theorem G4 {xs:List BA} (ha:Sl w X 1 a (xs.map S1)):
  Ct pg 214 #[a] w X nX λv _ _=>v=B (yw xs):=by
 intro w0 hk;replace ha:=ha.mv hk.bY;have kn:=ha.gR;refine Zf.1 λhs=>?_;repeat' refine ak ?_;intros
 refine eY (λn a w X=> ∃i:Nat,a=I (i:Nat)/\n=(xs).length-i/\i<=(xs).length/\ai (bI w0) w0 X w/\chain iM zr none xs=chain iM zr (uu xs i) (xs.drop i)) (xs).length ⟨0,rfl,rfl,aq _,hs,by simp[uu]⟩ ?_;rintro n a w X ⟨i,rfl,rfl,hi,hs,hw⟩;rcases dE (xs) i with⟨cD,x,hx,hd⟩|⟨dD,hd⟩
 ·rcases MW cD with⟨h0,hp⟩|⟨h0,y,hy,hp⟩<;>rw[hp,hd,chain] at hw<;>clear hd
  ·repeat' first|refine aJ ?_;intros|(refine j5 (kX _) hs ?_ ?_<;>intro _ w X hs)|(refine qr ?_;intro wa hk;simp_all [yw,rising,chain])|((with_reducible refine ep ((xs).length-(i+1)) ?_ ?_);omega;exact⟨i+1,by simp,rfl,by omega,hs,by rw[hw,rj hx];simp[*]⟩)
  ·repeat' first|refine aJ ?_;intros|refine cM ?_ ?_<;>intros|(refine j5 (kX _) hs ?_ ?_<;>intro _ w X hs)|(refine qr ?_;intro wa hk;simp_all [yw,rising,chain])|((with_reducible refine ep ((xs).length-(i+1)) ?_ ?_);omega;exact⟨i+1,by simp,rfl,by omega,hs,by rw[hw,rj hx];simp[*]⟩)
 ·repeat' first|refine aJ ?_;intros|refine cM ?_ ?_<;>intros|(refine qr ?_;intro wa hk;simp_all [yw,rising,chain]<;>omega)
def fe.may (x:fe):Bool:=x.aS.may&&x.val.may&&!(decide (x.aS= .zero)&&decide (x.val.kind≠0))
def H7 (l:List fe):Bool:=l.all fe.may&&yw (l.map (·.key))
theorem abo {xs:List fe} (ha:Sl w X 7 a (xs.map fe.l)) (hb:xs.length<=2^40):
  Ct pg 216 #[a] w X nX λv _ _=>v=B (H7 xs):=by
 intro w0 hk;replace ha:=ha.mv hk.bY;have kn:=ha.gR;refine Zh.1 λhs=>?_;repeat' refine ak ?_;intros
 refine gv (λn a b w X=> ∃i:Nat,a=I i/\n=xs.length-i/\i<=xs.length/\ai (bI w0) w0 X w/\Own w X w0.heap.size 9 1 b (((xs.take i).map (·.key)).map S1)/\xs.all fe.may=(xs.drop i).all fe.may) xs.length ⟨0,rfl,rfl,aq _,hs,Own.nil _ _ _ _ _,by simp⟩ ?_;rintro n a b w X ⟨i,rfl,rfl,hi,hs,ho,hw⟩;rcases dE (xs) i with⟨cD,x,hx,hd⟩|⟨dD,hd⟩
 ·rw[hd,iU] at hw;have FC: ∀q:Bool,q=false->x.may=q->H7 xs=false:=λq hq h=>by simp[H7,hw,h,hq]
  repeat' first|refine aJ ?_;intros|refine cM ?_ ?_<;>intros|(with_reducible refine Fk _ ?_ ?_ ?_);(· kernel_rfl);all_goals intros|((with_reducible apply MI);(case own=>first|assumption|exact Own.since aQ aQ);(case hs=>assumption);(case h0=>first|exact λ_ h=>h|exact fv.has);(case he=>kernel_rfl);(case hk=>rfl);(case ho=>first|rfl|assumption);(case hb=>(simp only[af,aD,aa,aL,br];omega));(case hl=>(simp only[af,aD,aa,aL,br];omega));intro acc w X ax ho hc dF;replace hs:=ax)|with_reducible apply cB|((with_reducible refine MV (pD _) ?_ hs.has ?_ ?_);(· kernel_rfl);all_goals (intro _ w X ax;replace hs:=hs.trans ax))|((with_reducible refine MV (l9 _) ?_ hs.has ?_ ?_);(· kernel_rfl);all_goals (intro _ w X ax;replace hs:=hs.trans ax))|(refine qr ?_;intro wa hk;(exact(congrArg B (FC false rfl (by clear FC;grind [fe.may]))).symm))|((with_reducible refine fw ((xs).length-(i+1)) ?_ ?_);omega;exact⟨i+1,by simp,rfl,by omega,hs,by rw[bT,hx];simp only[zy,aC,bB,List.map_nil];(first|exact Own.since ho aQ|exact Own.since (Own.since ho aQ) aQ),by rw[hw];clear FC;grind [fe.may]⟩)
 ·rw[hd] at hw;rw[aA dD] at ho;repeat' first|refine aJ ?_;intros|(refine qr ?_;intro wa hk;(rename_i h;simp[H7,hw,h]))|(refine qk (G4  (Own.sl ho)) hs ?_ ?_<;>intro _ w X hs)
theorem Ti (ha:Sl w X 4 a (xs.map KV.l)) (hb:xs.length<=2^40):
  Ct pg 217 #[a] w X nX λv _ _=>v=B (Mb xs):=by
 intro w0 hk;replace ha:=ha.mv hk.bY;have kn:=ha.gR;refine Rn.1 λhs=>?_;repeat' refine ak ?_;intros
 refine gv (λn a b w X=> ∃i:Nat,a=I i/\n=xs.length-i/\i<=xs.length/\ai (bI w0) w0 X w/\Own w X w0.heap.size 9 1 b (((xs.take i).map (·.key)).map S1)/\xs.all (·.val.may)=(xs.drop i).all (·.val.may)) xs.length ⟨0,rfl,rfl,aq _,hs,Own.nil _ _ _ _ _,by simp⟩ ?_;rintro n a b w X ⟨i,rfl,rfl,hi,hs,ho,hw⟩;rcases dE (xs) i with⟨cD,x,hx,hd⟩|⟨dD,hd⟩
 ·rw[hd,iU] at hw;have FC:x.val.may=false->Mb xs=false:=λh=>by simp[Mb,hw,h]
  repeat' first|refine aJ ?_;intros|((with_reducible apply MI);(case own=>first|assumption|exact Own.since aQ aQ);(case hs=>assumption);(case h0=>first|exact λ_ h=>h|exact fv.has);(case he=>kernel_rfl);(case hk=>rfl);(case ho=>first|rfl|assumption);(case hb=>(simp only[af,aD,aa,aL,br];omega));(case hl=>(simp only[af,aD,aa,aL,br];omega));intro acc w X ax ho hc dF;replace hs:=ax)|((with_reducible refine MV (l9 _) ?_ hs.has ?_ ?_);(· kernel_rfl);all_goals (intro _ w X ax;replace hs:=hs.trans ax))|(refine qr ?_;intro wa hk;(exact(congrArg B (FC aQ)).symm))|((with_reducible refine fw ((xs).length-(i+1)) ?_ ?_);omega;exact⟨i+1,by simp,rfl,by omega,hs,by rw[bT,hx];simp only[zy,aC,bB,List.map_nil];exact Own.since ho aQ,by rw[hw];clear FC;simp[*]⟩)
 ·rw[hd] at hw;rw[aA dD] at ho;repeat' first|refine aJ ?_;intros|(refine qr ?_;intro wa hk;(rename_i h;simp[Mb,hw,h]))|(refine qk (G4  (Own.sl ho)) hs ?_ ?_<;>intro _ w X hs)
def M8 (l:List dR):Bool:=l.all dR.may&&decide ((l.length:Int)<=12)
theorem aab {xs:List dR} (ha:Sl w X 4 a (xs.map dR.l)):
  Ct pg 287 #[a] w X nX λv _ _=>v=B (M8 xs):=by
 intro w0 hk;replace ha:=ha.mv hk.bY;have kn:=ha.gR;refine Vt.1 λhs=>?_;repeat' refine ak ?_;intros
 refine eY (λn a w X=> ∃i:Nat,a=I (i:Nat)/\n=(xs).length-i/\i<=(xs).length/\ai (bI w0) w0 X w/\xs.all dR.may=(xs.drop i).all dR.may) (xs).length ⟨0,rfl,rfl,aq _,hs,by simp⟩ ?_;rintro n a w X ⟨i,rfl,rfl,hi,hs,hw⟩;rcases dE (xs) i with⟨cD,x,hx,hd⟩|⟨dD,hd⟩
 ·rw[hd,iU] at hw;repeat' first|refine aJ ?_;intros|(refine j5 (vZ _) hs ?_ ?_<;>intro _ w X hs)|(refine qr ?_;intro wa hk;(simp[M8,hw, *]))|((with_reducible refine ep ((xs).length-(i+1)) ?_ ?_);omega;exact⟨i+1,by simp,rfl,by omega,hs,by rw[hw];simp[*]⟩)
 ·rw[hd] at hw;repeat' first|refine aJ ?_;intros|refine cM ?_ ?_<;>intros|(refine qr ?_;intro wa hk;(simp_all [M8]))
def codeOk (c:Int) (aac:Bool) (l:List dR):Bool:=if c=0 then aac&&decide (l=[])else decide (c>0)&&decide (c<=25)&&M8 l
theorem abp {c:Int} {aac:Bool} {xs:List dR} (ha:Sl w X 4 a (xs.map dR.l)):
  Ct pg 215 #[I c,B aac,a] w X nX λv _ _=>v=B (codeOk c aac xs):=by
 intro w0 hk;replace ha:=ha.mv hk.bY;have kn:=ha.gR;refine Zg.1 λhs=>?_;cases aac<;>
 repeat' first|refine ak ?_;intros|refine cM ?_ ?_<;>intros|with_reducible apply cB|(refine qr ?_;intro wa hk;(simp_all [codeOk]<;>omega))|(refine qk (aab  qA) hs ?_ ?_<;>intro _ w X hs)
def M9 (l:List Int) (n:Int):Bool:=l.any λx=>decide (x=n)
theorem aeN {xs:List Int} (ha:Sl w X 1 a (xs.map I1)):
  Ct pg 219 #[a,I z] w X nX λv _ _=>v=B (M9 xs z):=by
 intro w0 hk;replace ha:=ha.mv hk.bY;have kn:=ha.gR;refine aa2.1 λhs=>?_;repeat' refine ak ?_;intros
 refine eY (λn a w X=> ∃i:Nat,a=I (i:Nat)/\n=(xs).length-i/\i<=(xs).length/\ai (bI w0) w0 X w/\M9 xs z=M9 (xs.drop i) z) (xs).length ⟨0,rfl,rfl,aq _,hs,by simp⟩ ?_;rintro n a w X ⟨i,rfl,rfl,hi,hs,hw⟩;rcases dE (xs) i with⟨cD,x,hx,hd⟩|⟨dD,hd⟩
 ·rw[hd] at hw;repeat' first|refine aJ ?_;intros|refine cM ?_ ?_<;>intros|(refine qr ?_;intro wa hk;(rw[hw];simp[M9, *]))|((with_reducible refine ep ((xs).length-(i+1)) ?_ ?_);omega;exact⟨i+1,by simp,rfl,by omega,hs,by rw[hw];simp[M9, *]⟩)
 ·rw[hd] at hw;repeat' first|refine aJ ?_;intros|(refine qr ?_;intro wa hk;(rw[hw];rfl))
def Na (l:List Rec):Bool:=l.all (λr=>decide (r.fI=0))&&decide ((l.length:Int)<=8)
theorem aad {xs:List Rec} (ha:fp w X 29 a Rec.rd xs) (lX: ∀r∈xs,r.small) (mO: ∀r∈xs,r.err=0->(gf r).length<=2^33):
  Ct pg 150 #[a] w X nX λv _ _=>v=B (Na xs):=by
 intro w0 hk;replace ha:=fp.mv ha Rec.mv hk.bY;have kn:=ha.len;refine Vm.1 λhs=>?_;repeat' refine ak ?_;intros
 refine eY (λn a w X=> ∃i:Nat,a=I (i:Nat)/\n=(xs).length-i/\i<=(xs).length/\ai (bI w0) w0 X w/\xs.all (λr=>decide (r.fI=0))=(xs.drop i).all (λr=>decide (r.fI=0))) (xs).length ⟨0,rfl,rfl,aq _,hs,by simp⟩ ?_;rintro n a w X ⟨i,rfl,rfl,hi,hs,hw⟩;rcases dE (xs) i with⟨cD,x,hx,hd⟩|⟨dD,hd⟩
 ·rw[hd,iU] at hw;have hxm:=ay hx;repeat' first|refine aJ ?_;intros|((with_reducible apply abN);assumption;(try (case hz=>rfl));(case hr=>exact qR);(try (case hz=>omega));(case ht=>kernel_rfl);(case hs=>kernel_rfl);intros)
  refine cd (Dm (r:=x) (Rec.at.mv aQ hs.mv) (lX x hxm) (mO x hxm)) kQ hs.has ?_;rintro v wa w2 X2 hq hle gn bp;replace hs:=hs.trans bp;by_cases he:x.fI=0
  ·rw[if_neg zQ] at hq;obtain⟨vb,rfl,_⟩:=hq;repeat' first|refine aJ ?_;intros|((with_reducible refine ep ((xs).length-(i+1)) ?_ ?_);omega;exact⟨i+1,by simp,rfl,by omega,hs,by rw[hw];simp[he]⟩)
  ·rw[if_pos he] at hq;subst hq;repeat' first|refine aJ ?_;intros|(refine qr ?_;intro wa hk;(simp[Na,hw,he]))
 ·rw[hd] at hw;repeat' first|refine aJ ?_;intros|refine cM ?_ ?_<;>intros|(refine qr ?_;intro wa hk;(simp_all [Na]))
theorem apv {a b:Int} (h:N (.int .i64 (max a b))):aV P X w (kV #[t,t] ty #[.int .i64 a,.int .i64 b]) N:=
 bF (λwa=>by
  simp only[kV,List.foldlM];by_cases hc:b>a
  ·have:max a b=b:=by omega
   simp[rS,hc,this]
  ·have:max a b=a:=by omega
   simp[rS,hc,this]) h
abbrev Gv (s:cx):List Value:=[I s.wall,I s.dC,I s.node]
theorem afu {node:Int} {fl:cx} (h1:1<=node) (h2:node<=63) (h3:fl.may=true):Ct pg 83 #[I node,fl.v] w X nX λv wa w'=>
  ∃cb,v= .tuple #[ptr cb 0,I 0]/\aG w' (made wa w') cb (Gv { fl with node:=node }) 259:=by
 intro w0 hk;refine aer.1 λhs=>?_;repeat' refine aJ ?_;intros
 refine rL (pD fl) kQ hs.has λw1 X1 ax=>?_;rw[h3];replace hs:=hs.trans ax;have hz:=hs.kp.size;repeat' first|refine ak ?_;intros|(refine NV hs ?_;intro bx w X fY ax fv hs bo)
 exact bM (fv.trans hs) λwa aH=>⟨bx,rfl,⟨⟨by omega,(bo.kp aH).lt⟩,(bo.kp aH).2⟩⟩
def cx.tt (s:cx) (gN:Int):cx×Int:=
 if max gN 0>281474976710656 then(.zero,15)else if max gN 0>s.wall then(⟨max gN 0,0,s.node⟩,0)else if s.dC>=65535 then(.zero,16)else(⟨s.wall,s.dC+1,s.node⟩,0)
abbrev Il:Nat:=259
section
variable {c : cx}
theorem acI {gN:Int} (h:aG w X cb (Gv c) Il) (hl:c.dC<2^60) (AP: -(2^60)<c.dC):Ct pg 161 #[ptr cb 0,I gN] w X nX λv _ _=>v= .tuple #[(c.tt gN).1.v,I (c.tt gN).2]:=by
 intro w0 hk;replace h:=h.mv hk.bY;unfold cx.tt;refine Np.1 λhs=>?_;refine apv ?_;generalize max gN 0=p;repeat' first|refine ak ?_;intros|refine cM ?_ ?_<;>intros|with_reducible apply cB|(refine qr ?_;intro wa hk;(simp[*];try omega))
theorem VO {t:cx} (h:aG w X cb (Gv c) Il) (ht:t.may=true):
  Ct pg 154 #[ptr cb 0,t.v] w X (· =cb) λv _ w'=>v=I 0/\aG w' (· =cb) cb (Gv (c.later ⟨t.wall,t.dC,c.node⟩)) Il:=by
 intro w0 hk;have hF:FX (· =cb) X w:=λk ah=>by subst ah;exact⟨h.1,h.lt⟩
 have hT:=hF.ft hk;replace h:=h.mv hk.bY;refine IS.1 λ_=>?_;refine rL (pD t) kQ (λ_ h=>h) λw1 X1 ax=>?_;rw[ht];replace h:=h.since ax;have hs:=ai.eQ ax.has;repeat' refine ak ?_;intros
 refine rL (Oc c ⟨t.wall,t.dC,c.node⟩) kQ hs.has λw3 X3 cY=>?_;have h3:=h.since (hs.trans cY);have dU:Ft w0 (· =cb) w3 X3 (· =cb):=⟨hT.s.trans (ax.trans (hs.trans cY)),λk ah=>by subst ah;exact h3.1,λk ah=>.inl ah⟩;obtain⟨r,hr⟩: ∃r,r=c.later ⟨t.wall,t.dC,c.node⟩:=⟨_,rfl⟩;rw[<-hr];clear hr;repeat' refine ak ?_;intros
 refine FI (o:=0) h3 zQ kQ sQ rfl rfl dU.s.has λw4 X4 c4 zi=>?_;have fO:=dU.dY (F':=(· =cb)) c4 (λk ah=>ah) λk ah=>.inl ah
 skip
 exact fO.fin λwa aH=>⟨rfl,(zi.kp aH).own⟩
end
section
variable {kb pb : Nat} {hm : List (BA × List pz)} {pm : List (bL × gu)} {low : cx}
end
def xr (a b:Int):Int:=IntKind.u32.wrap (aF IntKind.u32.bits a^^^aF IntKind.u32.bits b).toNat
def xr8 (a b:Int):Int:=IntKind.u8.wrap (aF IntKind.u8.bits a^^^aF IntKind.u8.bits b).toNat
def an (a b:Int):Int:=IntKind.u32.wrap (aF IntKind.u32.bits a&&& aF IntKind.u32.bits b).toNat
def sr (a n:Int):Int:=a.fdiv (2^min n.toNat IntKind.u32.bits)
def ng (a:Int):Int:=IntKind.u32.wrap (-a)
def nt (a:Int):Int:=xr IntKind.u32.max a
def stp (c:Int):Int:=xr (sr c 1) (an 2197175160 (ng (an c 1)))
def it:Nat->Int->Int
 |0,c=>c
 |n+1,c=>stp (it n c)
def DJ (i:Int):Int:=it 8 (IntKind.u32.wrap i)
def aeO (l:List Nat) (c:Int):Int:=l.foldl (λ(c:Int) (x:Nat)=>it 8 (xr c (IntKind.u32.wrap x))) c
def aae (l:List Nat) (c:Int):Int:=l.foldl (λ(c:Int) (x:Nat)=>xr (sr c 8) (DJ (xr8 (IntKind.u8.wrap c) x))) c
def K0 (l:List Nat):Int:=nt (if l.length<64 then aeO l 4294967295 else aae l 4294967295)
def CJ (l:List Nat):Nat:=(K0 l).toNat
def tX (n:Nat):List Nat:=[n % 256,n/256 % 256,n/65536 % 256,n/16777216 % 256]
def dt (p:List Nat):List Nat:=tX p.length++tX (CJ (tX p.length))++p++tX (CJ p)
theorem wrap32 (n:Int):IntKind.u32.wrap n=n % 4294967296:=by simp[IntKind.wrap,mF,jQ]
theorem ai3 (a b:Int):0<=xr a b/\xr a b<4294967296:=by unfold xr;rw[wrap32];omega
theorem agy (a b:Int):0<=xr8 a b/\xr8 a b<256:=by unfold xr8;rw[MF];omega
def RN (l:List Nat):0<=K0 l/\K0 l<4294967296:=ai3 _ _
theorem Qp (l:List Nat):((CJ l:Nat):Int)=K0 l:=yP (RN l).1
theorem afe (l:List Nat):CJ l<4294967296:=by have:=Qp l;have:=RN l;omega
theorem MH (n:Nat):(tX n).length=4:=rfl
theorem qG (p:List Nat):(dt p).length=p.length+12:=by simp only[dt,aa,MH];omega
section
variable {m : Bool} {a b : Int}
def aeP (h:N (.int .u32 (xr a b))):aV P X w (binOp .xor t (.int .u32 a) (.int .u32 b)) N:=RZ h
def apw (h:N (.int .u8 (xr8 a b))):aV P X w (binOp .xor t (.int .u8 a) (.int .u8 b)) N:=RZ h
def anY (h:N (.int .u32 (an a b))):aV P X w (binOp .and t (.int .u32 a) (.int .u32 b)) N:=MB h
def ai4 (hb: ¬b<0) (h:N (.int .u32 (sr a b))):aV P X w (binOp .shr t (.int .u32 a) (.int .u64 b)) N:=Ea hb h
theorem anZ (h:N (.int .u32 (ng a))):aV P X w (bH .neg (.int .u32 a)) N:=bF (λwa=>by simp[bH,ng,Op.intArith]) h
theorem an0 (h:N (.int .u32 (nt a))):aV P X w (bH .xor (.int .u32 a)) N:=bF (λwa=>by simp[bH,nt,xr,Op.intBits,jQ]) h
theorem ab7 {k:IntKind} (hz:z=i) (hi:i<P.arrayLen t) (ht:P.underlying t=some (.array (P.arrayLen t) (P.elem t))) (hs:(P.info? (P.elem t)).map (·.size)=some 1) (h:N (ptr g (o+i))):
  aV P X w (Instr.indexAt t (ptr g o) (.int k z)) N:=by
 subst hz;refine bF (v:=ptr g (o+i)) (λwa=>?_) h
 show(Instr.indexAt t (.pointer (some ⟨g,o,none⟩)) _).run P wa=_
 rw[run_indexAt_array (h:=ht),if_pos zQ];cases hq:P.info? (P.elem t)with
 |none=>simp[hq] at hs
 |some inf=>
  have:inf.size=1:=by simpa [hq] using hs
  simp[sizeOf,typeInfo,hq,this,zM]
end
abbrev U4 (x:Int):Value:=.int .u32 x
theorem VP:Ct pg 324 #[] w X nX λv wa w'=>v= .agg ((dA 256).map λi:Nat=>U4 (DJ (i:Int))).toArray:=by
 intro w0 hk;refine SX.1 λhs=>?_;have hT:Ft w0 nX w0 (bI w0) nX:=Ft.init λ_ h=>h.elim;refine MN (l:=gF 256 (U4 0)) hs.has kQ λb w1 X1 hb ax hr=>?_;have ea:Ft w0 nX w1 X1 (λk=>k=b):=(hT.since ax).more λk ah=>by subst ah;exact .inr ⟨hr.1,hb⟩
 refine CC (λn a _ _ w X=> ∃i:Nat,a=I (i:Nat)/\n=256-i/\i<=256/\Ft w0 nX w X (λk=>k=b)/\aG w X b (((dA i).map λi:Nat=>U4 (DJ (i:Int)))++gF (256-i) (U4 0)) 447) 256 ⟨0,rfl,rfl,aq _,ea,by simpa using hr⟩ ?_;rintro n a _ _ w X ⟨i,rfl,rfl,hi,dh,jC⟩;repeat' first|refine ak ?_;intros|refine cM ?_ ?_<;>intros
 ·refine gv (λn a c w' X'=> ∃j:Nat,a=I (j:Nat)/\c=U4 (it j (IntKind.u32.wrap i))/\n=8-j/\j<=8/\w'=w/\X'=X) 8 ⟨0,rfl,rfl,rfl,aq _,rfl,rfl⟩ ?_;rintro n a c _ _ ⟨j,rfl,rfl,rfl,hj,rfl,rfl⟩;repeat' first|refine ak ?_;intros|refine cM ?_ ?_<;>intros|(with_reducible apply ai4);omega|(with_reducible apply anY)|(with_reducible apply anZ)|(with_reducible apply aeP)
  ·exact fw (8-(j+1)) zQ ⟨j+1,by simp,rfl,rfl,by omega,rfl,rfl⟩
  ·have hj8:j=8:=by omega
   subst hj8;have TN:pg.arrayLen 447=256:=by kernel_rfl
   refine ab7 rfl (by rw[TN];omega) kQ kQ ?_;rw[fg];refine DZ jC kQ oQ rfl rfl dh.s.has λw3 X3 c Cs=>?_;have dU:Ft w0 nX w3 X3 (λk=>k=b):=dh.dY c (λk ah=>ah) λk ah=>.inl ah;repeat' refine ak ?_;intros
   refine AT (256-(i+1)) zQ ⟨i+1,by simp,rfl,by omega,dU,?_⟩;have e:bO (((dA i).map λi:Nat=>U4 (DJ (i:Int)))++gF (256-i) (U4 0)) i (bf (U4 (it 8 (IntKind.u32.wrap (i:Int))))).toList=((dA (i+1)).map λi:Nat=>U4 (DJ (i:Int)))++gF (256-(i+1)) (U4 0):=by
    have hl:((dA i).map λi:Nat=>U4 (DJ (i:Int))).length=i:=by simp
    rw[show 256-i=(256-(i+1))+1 by omega,List.replicate_succ];unfold bO;rw[ig hl,List.range_succ,aC,List.map_singleton,ao,ao];have hd: ∀r:List Value,(((dA i).map λi:Nat=>U4 (DJ (i:Int)))++U4 0::r).drop (i+1)=r:=λr=>by
     rw[<-List.drop_drop,List.drop_left' hl];rfl
    have h1:(bf (U4 (it 8 (IntKind.u32.wrap (i:Int))))).toList=[U4 (DJ (i:Int))]:=rfl;rw[h1,bR,hd]
   rw[<-e];exact Cs
 ·have hi6:i=256:=by omega
  subst hi6;have Cs:aG w X b ((dA 256).map λi:Nat=>U4 (DJ (i:Int))) 447:=by simpa using jC
  have hl:((dA 256).map λi:Nat=>U4 (DJ (i:Int))).length=256:=by simp
  generalize hL:((dA 256).map λi:Nat=>U4 (DJ (i:Int)))=L at Cs hl⊢;have IB:L.all aK.one=true:=by rw[<-hL];simp;intros;rfl
  refine acJ Cs.cells (Mv.refl _ _) kQ hl ?_;refine XV ?_;refine dO.2 ⟨by simpa [bf] using hl,dO.2 ⟨by simpa [bf] using IB,?_⟩⟩;refine afY ?_;refine dO.2 ⟨rfl,?_⟩;rw[List.drop_zero,aA zQ];exact dh.fin λwa aH=>rfl
theorem UY {β:Type} (f:β->Nat->β) (l:List Nat) {x:Nat} (c:β) (h:l[i]? =some x):(l.take (i+1)).foldl f c=f ((l.take i).foldl f c) x:=by
 rw[bT,h];simp
theorem Ci {l:List Nat} (h:Sl w X 1 vb (l.map U1)):Ct pg 254 #[vb] w X nX λv wa w'=>v=U4 (K0 l):=by
 intro w0 hk;replace h:=h.mv hk.bY;have hlen:=h.gR;refine Zk.1 λhs=>?_;repeat' first|refine ak ?_;intros|refine cM ?_ ?_<;>intros
 ·have h64:l.length<64:=by omega
  refine CC (λn a _ c w X=> ∃i:Nat,a=I (i:Nat)/\c=U4 (aeO (l.take i) 4294967295)/\n=l.length-i/\i<=l.length/\ai (bI w0) w0 X w) l.length ⟨0,rfl,rfl,rfl,aq _,hs⟩ ?_;clear hs;rintro n a _ _ w X ⟨i,rfl,rfl,rfl,hi,hs⟩;rcases dE l i with⟨cD,x,hx,hd⟩|⟨dD,hd⟩
  ·repeat' first|refine aJ ?_;intros|(with_reducible apply aeP)
   refine gv (λn a c w' X'=> ∃j:Nat,a=I (j:Nat)/\c=U4 (it j (xr (aeO (l.take i) 4294967295) (IntKind.u32.wrap x)))/\n=8-j/\j<=8/\w'=w/\X'=X) 8 ⟨0,rfl,rfl,rfl,aq _,rfl,rfl⟩ ?_;rintro n a c _ _ ⟨j,rfl,rfl,rfl,hj,rfl,rfl⟩;repeat' first|refine ak ?_;intros|refine cM ?_ ?_<;>intros|(with_reducible apply ai4);omega|(with_reducible apply anY)|(with_reducible apply anZ)|(with_reducible apply aeP)
   ·exact fw (8-(j+1)) zQ ⟨j+1,by simp,rfl,rfl,by omega,rfl,rfl⟩
   ·have hj8:j=8:=by omega
    subst hj8;refine AT (l.length-(i+1)) zQ ⟨i+1,by simp,?_,rfl,by omega,hs⟩;unfold aeO;rw[UY _ l _ hx]
  ·have pK:i=l.length:=by omega
   subst pK;repeat' first|refine aJ ?_;intros|(with_reducible apply an0)|(refine qr ?_;intro wa hk;(rw[K0,if_pos h64,jW]))
 ·have h64: ¬l.length<64:=by omega
  refine cd VP kQ hs.has ?_;rintro _ wa w1 X1 rfl hle gn ax;replace hs:=hs.trans ax;refine MN (l:=gF 256 (U4 0)) hs.has kQ λb w2 X2 hb bp hr=>?_;have sA:=hs.trans bp;have hT:Ft w0 nX w2 X2 (λk=>k=b):=((Ft.init (w:=w0) (F0:=nX) λ_ h=>h.elim).since sA).more λk ah=>by subst ah;exact .inr ⟨hr.1,by have:=hs.kp.size;omega⟩
  have hl:((dA 256).map λi:Nat=>U4 (DJ (i:Int))).length=256:=by simp
  have Db: ∀i:Nat,i<256->((dA 256).map λi:Nat=>U4 (DJ (i:Int)))[i]? =some (U4 (DJ (i:Int))):=λi hi=>by simp[hi]
  have IB:((dA 256).map λi:Nat=>U4 (DJ (i:Int))).all aK.one=true:=by simp;intros;rfl
  generalize ((dA 256).map λi:Nat=>U4 (DJ (i:Int)))=L at hl Db IB⊢;refine DZ hr kQ sQ (by simpa [bf] using hl) (by simpa [bf] using IB) hT.s.has λw3 X3 c Cs=>?_;have dU:Ft w0 nX w3 X3 (λk=>k=b):=hT.dY c (λk ah=>ah) λk ah=>.inl ah;have e:bO (gF 256 (U4 0)) 0 (bf (.agg L.toArray)).toList=L:=by
   unfold bO;simp[bf,hl]
  rw[e] at Cs;have cY:ai (bI w0) w0 X3 w3:=⟨⟨dU.s.kp.os,dU.s.kp.tape,dU.s.kp.output,dU.s.kp.size,λk ah=>dU.s.kp.block k ⟨ah,λh=>h.elim⟩⟩,λk ah=>dU.s.sub k ⟨ah,λh=>h.elim⟩,dU.s.has⟩;clear hs sA;have hs:=cY;repeat' refine ak ?_;intros
  refine gv (λn a c w X=> ∃i:Nat,a=I (i:Nat)/\c=U4 (aae (l.take i) 4294967295)/\n=l.length-i/\i<=l.length/\w=w3/\X=X3) l.length ⟨0,rfl,rfl,rfl,aq _,rfl,rfl⟩ ?_;rintro n a _ _ _ ⟨i,rfl,rfl,rfl,hi,rfl,rfl⟩;rcases dE l i with⟨cD,x,hx,hd⟩|⟨dD,hd⟩
  ·repeat' first|refine aJ ?_;intros|(with_reducible apply ai4);omega|(with_reducible apply apw)
   have hrg:=agy (IntKind.u8.wrap (aae (l.take i) 4294967295)) x;obtain⟨q,hq⟩: ∃q:Nat,xr8 (IntKind.u8.wrap (aae (l.take i) 4294967295)) x=(q:Int):=⟨_,(yP hrg.1).symm⟩;have TN:pg.arrayLen 447=256:=by kernel_rfl
   refine ab7 hq (by rw[TN];omega) kQ kQ ?_;rw[fg];have TO:=Cs.cells.V9 (Db q zQ);rw[fg] at TO;repeat' first|refine ak ?_;intros|(with_reducible apply aeP)
   refine fw (l.length-(i+1)) zQ ⟨i+1,by simp,?_,rfl,by omega,rfl,rfl⟩;unfold aae;rw[UY _ l _ hx,<-hq];rfl
  ·have pK:i=l.length:=by omega
   subst pK;repeat' first|refine aJ ?_;intros|(with_reducible apply an0)|(refine qr ?_;intro wa hk;(rw[K0,if_neg h64,jW]))
theorem aeQ {u:Nat} (k:Nat) (hk:k<=32) (h:N (.int .u32 ((u/2^k:Nat):Int))):aV P X w (binOp .shr t (.int .u32 (u:Int)) (.int .u64 (k:Int))) N:=by
 refine Ea zQ ?_;have e:((u:Int)).fdiv (2^min ((k:Int)).toNat IntKind.u32.bits)=((u/2^k:Nat):Int):=by
  rw[show min ((k:Int)).toNat IntKind.u32.bits=k by simp[mF];omega];rw[Int.fdiv_eq_ediv_of_nonneg _ (by exact_mod_cast aq _)]
  norm_cast
 rw[e];exact h
theorem apx (a b c d:Int):Instr.fill (λi=>some (i*1,1)) ((Array.range (4*1)).map ((Value.int .u8 0).cells[· % (Value.int .u8 0).cells.size]!)) [(0,.int .u8 a),(1,.int .u8 b),(2,.int .u8 c),(3,.int .u8 d)]=some #[.int .u8 a,.int .u8 b,.int .u8 c,.int .u8 d]:=by kernel_rfl
theorem G5 {n:Nat} (h:Ow w F 5 1 v (bs.map U1)) (hF:FX F X w) (hl:bs.length<=2^40):
  Ct pg 279 #[v,U4 n] w X F λr wa w'=> ∃F',(∀k,F' k->F k\/made wa w' k)/\Ow w' F' 5 1 r ((bs++tX n).map U1):=by
 intro w0 hk;replace h:=h.mv (hF.mv hk);have hT:=hF.ft hk;refine Zn.1 λ_=>?_;refine Ry kQ kQ ?_;refine aeQ 8 zQ ?_;refine Ry kQ kQ ?_;refine aeQ 16 zQ ?_;refine Ry kQ kQ ?_;refine aeQ 24 zQ ?_;refine Ry kQ kQ ?_;refine V7 (bytes:=1) (rows:=(tX n).map U1) #[.int .u8 (n % 256:Nat),.int .u8 (n/256 % 256:Nat),.int .u8 (n/65536 % 256:Nat),.int .u8 (n/16777216 % 256:Nat)] (.int .u8 0) hT.s.has kQ kQ dQ dQ (apx _ _ _ _) sQ rfl rfl λs w1 X1 ax ho=>?_;have ea:=hT.since ax;refine Ra kQ ax.has ((h.mv (ax.gU hT.bw)).mono ea.bw) ho.sl (by intro r hr u hu;obtain⟨x,_,rfl⟩:=List.mem_map.1 hr;simp only[U1,av] at hu;subst hu;rfl) (by simp[tX];omega) (by simp[tX];omega) λv' w2 X2 c ju dF=>?_;have hF2: ∀g,v'.ownBlock=some g->F g\/(X2 g/\w1.heap.size<=g):=λg hg=>by
  rcases dF with e|⟨g',e,dD⟩
  ·exact .inl (h.bw (e▸hg)).1
  ·rw[hg] at e;have:g=g':=Option.some.inj e;subst this;exact .inr ⟨(ju.bw hg).1,dD⟩
 have dh:Ft w0 F w2 X2 (λk=>F k\/(X2 k/\w1.heap.size<=k)):=ea.dY c (λk ah=>(h.bw ah).1) λk ah=>ah;refine dh.fin λwa aH=>⟨_,dh.js aH λ_ h=>h,?_⟩;rw[aC];exact ju.tight.mv λk ah AP=>⟨hF2 k ah,aH.block k (ju.bw ah).1⟩
def Ft.ai5 {wa:World} {F':XS} (h:Ft w0 nX w' X' (λk=>F k\/made wa w' k)) (ho:Ow w' F' e k v rows) (CN: ∀k,F' k->F k\/made wa w' k):Ow w' (BE w0 X') e k v rows:=
 ho.mono λk hk=>⟨h.bw k (CN k hk),(h.v k (CN k hk)).elim (λh=>h.elim) id⟩
theorem VQ {p:List Nat} (h:Sl w X 1 vp (p.map U1)):Ct pg 199 #[vp] w X nX λv wa w'=>
  if 262144<p.length then v= .tuple #[.slice none 0 0,I 2] else∃vb,v= .tuple #[vb,I 0]/\Ow w' (made wa w') 5 1 vb ((dt p).map U1):=by
 intro w0 hk;replace h:=h.mv hk.bY;have hlen:=h.gR;refine SQ.1 λhs=>?_;repeat' first|refine ak ?_;intros|refine cM ?_ ?_<;>intros|(refine qr ?_;intro wa hk;(rw[if_pos zQ]))
 have hn: ¬262144<p.length:=by omega
 refine af3 (e:=5) (k:=1) (c:=p.length+12) (bytes:=1) hs.has kQ sQ zQ zQ zQ λv0 w1 X1 ax ho=>?_;have hT:Ft w0 nX w1 X1 (BE w0 X1):=((Ft.init (w:=w0) (F0:=nX) λ_ h=>h.elim).since ax).OZ;have hO:Ow w1 (BE w0 X1) 5 1 v0 (([]:List Nat).map U1):=(ho.ow.tight).mono λk ah=>⟨(ho.ow.bw ah).1,(ho.ge ah).1⟩;have vO:IntKind.u32.wrap (p.length:Int)=(p.length:Nat):=by rw[wrap32];omega
 repeat' refine ak ?_;intros
 rw[vO];refine hT.call (G5 hO (hT.fx λ_ h=>h) sQ) kQ (λ_ h=>h) λv1 vM w2 X2 hq hle gn dh hc=>?_;obtain⟨F2,hF2,hO2⟩:=hq;have hO2:=Ft.ai5 dh hO2 hF2;replace dh:=dh.OZ;rw[List.nil_append] at hO2;refine cd (Ci (hO2.sl.mono dh.bw)) kQ dh.s.has ?_;rintro _ yD w3 X3 rfl pV lT cY;have hO3:Ow w3 (BE w0 X3) 5 1 v1 ((tX p.length).map U1):=(hO2.mv (cY.gU dh.bw)).mono λk ah=>⟨cY.sub k ah.1,ah.2⟩;replace dh:=(dh.since cY).OZ;rw[<-Qp];refine dh.call (G5 hO3 (dh.fx λ_ h=>h) (by simp[tX])) kQ (λ_ h=>h) λv4 zk w4 X4 hq hle gn fO hc=>?_;obtain⟨F4,hF4,hO4⟩:=hq;have hO4:=Ft.ai5 fO hO4 hF4;replace fO:=fO.OZ;have hp4:Sl w4 X4 1 vp (p.map U1):=h.mv fO.C4.mv;refine ao3 fO hO4 kQ hp4 (by intro r hr u hu;obtain⟨x,_,rfl⟩:=List.mem_map.1 hr;simp only[U1,av] at hu;subst hu;rfl) (by simp[tX];omega) (by simp[tX];omega) λv5 w5 X5 iN hO5 EE _=>?_;refine cd (Ci (h.mv iN.C4.mv)) kQ iN.s.has ?_;rintro _ wa6 w6 X6 rfl XA K8 qm;have hO6:Ow w6 (BE w0 X6) 5 1 v5 ((tX p.length++tX (CJ (tX p.length))++p).map U1):=by
  rw[aC];exact(hO5.mv (qm.gU iN.bw)).mono λk ah=>⟨qm.sub k ah.1,ah.2⟩
 replace iN:=(iN.since qm).OZ;rw[<-Qp];refine iN.call (G5 hO6 (iN.fx λ_ h=>h) (by simp[tX];omega)) kQ (λ_ h=>h) λv7 Qc w7 X7 hq hle gn CO hc=>?_;obtain⟨F7,hF7,hO7⟩:=hq
 skip
 refine CO.C4|>λAs=>bM As λwa aH=>?_;rw[if_neg hn];refine⟨v7,rfl,?_⟩;exact(Ft.ai5 CO hO7 hF7).mv λk ah hl=>⟨⟨ah.2,aw hl aH.size⟩,aH.block k ah.1⟩
end Go.Proofs.YtgfijddlkhkopaaGreat