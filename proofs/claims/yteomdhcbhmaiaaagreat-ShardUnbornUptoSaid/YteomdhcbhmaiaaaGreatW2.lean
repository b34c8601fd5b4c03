/-
 Part 2 of the proof: what the last text leans on.
-/
import Derived.Laws.Rows
import Derived.Laws.Pointers
import Derived.Deep.MidRow
import Derived.Laws.StructEq
import Derived.Maps.AppendAt
import Derived.Laws.OwnMore
import Derived.Great.BuildSlice
import Derived.Maps.RangeRun
import Derived.Laws.FloatArith
import Derived.Test.YteomdhcbhmaiaaaGreatW1
open Option.some renaming injEq → av
open Go.Sem renaming run_bind → bI, run_pure → bZ, run → qo
open Go.Result renaming andThen_ok → aV
open Nat renaming le_trans → af, lt_of_lt_of_le → aA, le_refl → bF, zero_add → eh, mod_eq_of_lt → sT
open Go.Value renaming int → aF, cells → aa, ownBlock → fz, agg → ai
open Bool renaming and_eq_true → aO, false_eq_true → aU, not_eq_true' → bX
open Option renaming map_some → bc, bind_some → dd
open Go.Instr renaming checkKey → fL, loadAt → fN, fill → kK, sameBits → iP, buildSlice → fM, findNow → ki, findKey → mz, extract → aB, box → dR, sameNow → qe, findAsking → nK, makeMap → qf, mapUpdate → gI, range → sU, entry → jl, index → sV, sureAddr → gR, keyThatStays → qp
open Prod.mk renaming injEq → da
open PUnit renaming unit → iQ
open Go.Op renaming intCmp → lE, bytesLess → gx, floatCmp → lM, equalIn → mY, stringOp → oO, unary → aQ, eqFields → oP, intArith → sW
open List renaming toList_toArray → eB, getElem?_eq_getElem → bk, length_cons → bO, map_cons → bz, mem_append_left → bC, mem_append_right → cU, getD → iG, drop_of_length_le → dS, drop_eq_getElem_cons → gQ, mem_append → oH, nil_append → dG, mem_singleton → bU, flatMap_cons → rZ, mem_cons_self → eY, mem_cons_of_mem → dc, getElem?_eq_none → fy, getElem?_take → iB, getElem?_cons_zero → gq, flatten_cons → gN, eq_nil_of_length_eq_zero → eA, length_append → ah, append_nil → fY, findIdx?_cons → iC, getElem?_map → dP, map_append → bM, nodup_append → sa
open BitVec renaming ofInt → bE
open Go.Builtin renaming len_ → iM, append_ → dH, min_ → gZ, min2 → xJ
open Array renaming length_toList → dv, getElem?_setIfInBounds → dr, range → sX, replicate → de, getElem?_append → gK, getElem?_replicate → gg
open Go.ByteArray renaming toList_eq → fD
open ForInStep renaming yield → lk
open Go.World renaming ownsRow_lit → sc
set_option linter.unusedVariables false
set_option linter.unusedSimpArgs false
namespace Go.aX
section
variable {P : Program}
theorem xK {X:XS} {w w':World} : ∀k,X k→grow X w w' k:=fun _ h=>.inl h
theorem KK {m:Bool} {X:XS} {w:World} {n n':Value→World→XS→Prop} {p p':List PanicEntry→World→XS→Prop} {r:Result Next} (h:iy P m X w n p r)
  (hn: ∀v w' X',(∀k,X k→X' k)→n v w' X'→n' v w' X') (hp: ∀c w' X',(∀k,X k→X' k)→p c w' X'→p' c w' X'):iy P m X w n' p' r:=by
 cases r with
 |ok x w'=>
  cases x<;>simp only [iy] at h⊢
  case value v=>exact⟨h.1,hn _ _ _ xK h.2⟩
  case skip=>exact⟨h.1,hn _ _ _ xK h.2⟩
  case enter f args=>
   refine⟨h.1,h.2.mono fun e iH he=>?_⟩;cases e with
   |returned v=>exact⟨he.1,hn _ _ _ xK he.2⟩
   |panicked c=>exact⟨he.1,hp _ _ _ xK he.2⟩
   |outgrown=>exact he
 |halt x w'=>
  cases x<;>simp only [iy] at h⊢
  case panic v=>exact⟨h.1,hp _ _ _ xK h.2⟩
theorem Yk {env:Env} {d s:Nat} {v:Value} (h: ¬s=d):jd env d v s=env s:=fi _ _ h
theorem Vl {env:Env} {d:Option Nat} {s:Nat} {v:Value} (h: ¬s∈d.toList):Cx env d v s=env s:=by
 cases d with
 |none=>rfl
 |some d=>exact fi _ _ (by simpa using h)
theorem Im: ∀(l:List TI) {fI GQ:List PanicEntry→Env→World→XS→Prop} {next next':Env→World→XS→Prop} {env:Env} {w:World} {X:XS},
  fg P fI next l env w X→
  (∀e w' X',(∀k,X k→X' k)→(∀s,¬s∈l.flatMap TI.wr→e s=env s)→next e w' X'→next' e w' X')→
  (∀c e w' X',(∀k,X k→X' k)→(∀s,¬s∈l.flatMap TI.wr→e s=env s)→fI c e w' X'→GQ c e w' X')→fg P GQ next' l env w X
 |[],_,_,_,_,_,_,_,h,hn,_=>hn _ _ _ (fun _ h=>h) (fun _ _=>rfl) h
 |i::l,fI,GQ,next,next',env,w,X,h,hn,hp=>by
  have step: ∀(xM:Env) (w1:World) (X1:XS),(∀k,X k→X1 k)→(∀s,¬s∈i.wr→xM s=env s)→fg P fI next l xM w1 X1→fg P GQ next' l xM w1 X1:=by
   intro xM w1 X1 Ds he1 h1;refine Im l h1 (fun e w' X' hX he hq=>hn e w' X' (fun k hk=>hX k (Ds k hk)) (fun s hs=>?_) hq) (fun c e w' X' hX he hq=>hp c e w' X' (fun k hk=>hX k (Ds k hk)) (fun s hs=>?_) hq)
   ·simp only [rZ,oH,not_or] at hs;rw [he s hs.2,he1 s hs.1]
   ·simp only [rZ,oH,not_or] at hs;rw [he s hs.2,he1 s hs.1]
  have pst: ∀c w1 X1,(∀k,X k→X1 k)→fI c env w1 X1→GQ c env w1 X1:=fun c w1 X1 Ds hq=>hp c env w1 X1 Ds (fun _ _=>rfl) hq;have st1: ∀(d:Nat) (v:Value) (w1:World) (X1:XS),i.wr=[d]→(∀k,X k→X1 k)→fg P fI next l (jd env d v) w1 X1→fg P GQ next' l (jd env d v) w1 X1:=
   fun d v w1 X1 hw Ds h1=>step _ _ _ Ds (fun s hs=>Yk (by rw [hw] at hs;simpa using hs)) h1
  have stO: ∀(d:Option Nat) (v:Value) (w1:World) (X1:XS),i.wr=d.toList→(∀k,X k→X1 k)→fg P fI next l (Cx env d v) w1 X1→fg P GQ next' l (Cx env d v) w1 X1:=
   fun d v w1 X1 hw Ds h1=>step _ _ _ Ds (fun s hs=>Vl (by rw [hw] at hs;exact hs)) h1
  cases i with
  |yP b=>exact cX.2 ⟨(cX.1 h).1,step _ _ _ (fun _ h=>h) (fun _ _=>rfl) (cX.1 h).2⟩
  |set d e=>exact st1 d _ _ _ rfl (fun _ h=>h) h
  |box b n e=>exact cX.2 ⟨(cX.1 h).1,st1 b _ _ _ rfl (fun _ h=>h) (cX.1 h).2⟩
  |put b off n e=>
   have h2:=cX.1 (cX.1 h).2;exact cX.2 ⟨(cX.1 h).1,cX.2 ⟨h2.1,st1 b _ _ _ rfl (fun _ h=>h) h2.2⟩⟩
  |sj b e=>exact cX.2 ⟨(cX.1 h).1,st1 b _ _ _ rfl (fun _ h=>h) (cX.1 h).2⟩
  |Mz b off e=>exact cX.2 ⟨(cX.1 h).1,st1 b _ _ _ rfl (fun _ h=>h) (cX.1 h).2⟩
  |fill b n e=>
   have h2:=cX.1 (cX.1 h).2;exact cX.2 ⟨(cX.1 h).1,cX.2 ⟨h2.1,st1 b _ _ _ rfl (fun _ h=>h) h2.2⟩⟩
  |rd d op ty ss=>
   obtain⟨v,h1,h2⟩:=h;exact⟨v,h1,st1 d _ _ _ rfl (fun _ h=>h) h2⟩
  |vO d op ty ss m=>exact fun wa xa=>KK (h wa xa) (fun v w' X' hX hq=>stO d v w' X' rfl hX hq) (fun c w' X' hX hq=>pst c w' X' hX hq)
  |MA g want d e=>exact st1 d _ _ _ rfl (fun _ h=>h) h
  |SE g want d op ty ss=>
   obtain⟨v,h1,h2,h3⟩:=h;exact⟨v,h1,h2,st1 d _ _ _ rfl (fun _ h=>h) h3⟩
  |MB g want d op ty ss m=>
   exact⟨fun hg wa xa=>KK (h.1 hg wa xa) (fun v w' X' hX hq=>stO d v w' X' rfl hX hq) (fun c w' X' hX hq=>pst c w' X' hX hq),fun hg=>stO d _ _ _ rfl (fun _ h=>h) (h.2 hg)⟩
theorem NH {M:List Nat} {e env:Env} {s:Nat} (h:s∈M):merge M e env s=e s:=by simp [merge,wT.2 h]
theorem yq {M:List Nat} {e env:Env} {s:Nat} (h: ¬s∈M):merge M e env s=env s:=by
 have:zj M s=false:=by
  cases hx:zj M s with
  |false=>rfl
  |true=>exact absurd (wT.1 hx) h
 simp [merge,this]
theorem jV: ∀(t:T) {K K':kL} {env:Env} {w:World} {X:XS},den P t K env w X→
  (∀ex e w' X',(∀k,X k→X' k)→(∀s,¬s∈t.wr→e s=env s)→K ex e w' X'→K' ex e w' X')→den P t K' env w X
 | .Cz l,K,K',env,w,X,h,hk=>Im l h (fun e w' X' hX he hq=>hk _ e w' X' hX he hq) (fun c e w' X' hX he hq=>hk _ e w' X' hX he hq)
 | .seq a b,K,K',env,w,X,h,hk=>by
  refine jV a (K:=kL.Qn (fun e w X=>den P b K e w X) K) h fun ex e w' X' hX he hq=>?_;have BJ: ∀s,¬s∈(T.seq a b).wr→e s=env s:=fun s hs=>he s (fun hc=>hs (bC _ hc));cases ex with
  |normal=>
   refine jV b (K:=K) hq fun ex2 e2 w2 X2 hX2 he2 Nj=>hk ex2 e2 w2 X2 (fun k hk=>hX2 k (hX k hk)) (fun s hs=>?_) Nj;rw [he2 s (fun hc=>hs (cU _ hc)),BJ s hs]
  |exit i=>exact hk _ e w' X' hX BJ hq
  |goto i=>exact hk _ e w' X' hX BJ hq
  |ret=>exact hk _ e w' X' hX BJ hq
  |panic c=>exact hk _ e w' X' hX BJ hq
  |outgrown=>exact hk _ e w' X' hX BJ hq
 | .ite c a b,K,K',env,w,X,h,hk=>by
  simp only [den,au] at h⊢;split at h
  ·refine⟨fun ht=>jV a (h.1 ht) fun ex e w' X' hX he hq=>hk ex e w' X' hX (fun s hs=>he s (fun hc=>hs (bC _ hc))) hq,
    fun ht=>jV b (h.2 ht) fun ex e w' X' hX he hq=>hk ex e w' X' hX (fun s hs=>he s (fun hc=>hs (cU _ hc))) hq⟩
  ·exact h
 | .alt a b,K,K',env,w,X,h,hk=>by
  exact⟨jV a h.1 fun ex e w' X' hX he hq=>hk ex e w' X' hX (fun s hs=>he s (fun hc=>hs (bC _ hc))) hq,
   jV b h.2 fun ex e w' X' hX he hq=>hk ex e w' X' hX (fun s hs=>he s (fun hc=>hs (cU _ hc))) hq⟩
 | .fV id a,K,K',env,w,X,h,hk=>by
  refine jV a (K:=kL.fV id K) h fun ex e w' X' hX he hq=>?_;cases ex with
  |exit i=>
   simp only [kL.fV] at hq⊢;split
   ·rename_i hi;rw [if_pos hi] at hq;exact hk _ e w' X' hX he hq
   ·rename_i hi;rw [if_neg hi] at hq;exact hk _ e w' X' hX he hq
  |normal=>exact hk _ e w' X' hX he hq
  |goto i=>exact hk _ e w' X' hX he hq
  |ret=>exact hk _ e w' X' hX he hq
  |panic c=>exact hk _ e w' X' hX he hq
  |outgrown=>exact hk _ e w' X' hX he hq
 | .loop M C a,K,K',env,w,X,h,hk=>by
  obtain⟨J,h0,hJ⟩:=h;refine⟨J,h0,fun n e w' X' hX hj=>?_⟩;refine jV a (K:=kL.Qn (fun e' iH oK=> ∃m,m<n∧J m (C.map e') iH oK) K) (hJ n e w' X' hX hj) fun ex e2 w2 X2 hX2 he2 hq=>?_;have ko: ∀k,X k→X2 k:=fun k hk=>hX2 k (hX k hk);have BJ: ∀s,¬s∈(T.loop M C a).wr→e2 s=env s:=fun s hs=>by
   simp only [T.wr,oH,not_or] at hs;rw [he2 s hs.2];exact yq hs.1
  cases ex with
  |normal=>exact hq
  |exit i=>exact hk _ e2 w2 X2 ko BJ hq
  |goto i=>exact hk _ e2 w2 X2 ko BJ hq
  |ret=>exact hk _ e2 w2 X2 ko BJ hq
  |panic c=>exact hk _ e2 w2 X2 ko BJ hq
  |outgrown=>exact hk _ e2 w2 X2 ko BJ hq
 | .exit id,K,K',env,w,X,h,hk=>hk _ _ _ _ (fun _ h=>h) (fun _ _=>rfl) h
 | .ret,K,K',env,w,X,h,hk=>hk _ _ _ _ (fun _ h=>h) (fun _ _=>rfl) h
 | .skip,K,K',env,w,X,h,hk=>hk _ _ _ _ (fun _ h=>h) (fun _ _=>rfl) h
theorem Vm {Q:Exit→Act→World→Prop} {a:Act} {w:World} {c:Code} (I:Nat→Act→World→Prop) (h₀: ∃n,I n a w)
  (round: ∀n a w,I n a w→c.wp P (Exit.then (fun a' w'=> ∃m,m<n∧I m a' w') Q) a w):(Code.loop c).wp P Q a w:=by
 intro b k cs;have key: ∀n a w,I n a w→ ∃e a' w',Q e a' w'∧Arrives P (lone (b.at a (.code c:: .inLoop c::k)) cs w) b k cs e a' w':=by
  intro n
  induction n using Nat.strongRecOn with
  |_ n ih=>
   intro a w hI;obtain⟨e,a₁,w₁,hq,Dt⟩:=round n a w hI b (.inLoop c::k) cs;cases e with
   |normal=>
    obtain⟨m,dA,hI₁⟩:=hq;obtain⟨e₂,a₂,w₂,hq₂,harr₂⟩:=ih m dA a₁ w₁ hI₁;exact⟨e₂,a₂,w₂,hq₂,.of_steps (Steps.trans Dt (.one step_inLoop)) harr₂⟩
   |exit id=>exact⟨_,a₁,w₁,hq,.pass (x:=.inLoop c) rfl (fun _ _=>.inl (by simp)) Dt⟩
   |goto l=>exact⟨_,a₁,w₁,hq,.pass (x:=.inLoop c) rfl (fun _ _=>.inl (by simp)) Dt⟩
   |ret=>exact⟨_,a₁,w₁,hq,.pass (x:=.inLoop c) rfl (fun _ _=>.inl (by simp)) Dt⟩
   |panic ch=>exact⟨_,a₁,w₁,hq,.pass (x:=.inLoop c) rfl (fun _ _=>.inl (by simp)) Dt⟩
   |outgrown=>exact⟨_,a₁,w₁,hq,.pass (x:=.inLoop c) rfl (fun _ _=>.inl (by simp)) Dt⟩
 obtain⟨n,h₀⟩:=h₀;obtain⟨e,a',w',hq,Dt⟩:=key n a w h₀;exact⟨e,a',w',hq,.of_steps (.one step_loop) Dt⟩
end
def QP (pl:ba) (ds:Bk) (K:kL):Exit→Act→World→Prop
 | .panic ch,a,w=>a.defers=ds.ds∧ ∃env X w0,Kp X w0 w∧K (.panic ch) env w0 X∧qI pl ds env X a w
 | .outgrown,_,_=>False
 |e,a,w=> ∃env X w0,dQ pl ds .start env X w0 a w∧K e env w0 X
section
variable {P : Program} {pl : ba} {ds : Bk}
theorem dQ.drop {cs:CS} {env:Env} {X:XS} {w0 w:World} {a:Act} (h:dQ pl ds cs env X w0 a w):dQ pl ds .start env X w0 a w:=
 { h with sig:=fun _ hp=>(by cases hp),live:=fun _ hp=>(by cases hp),ptr:=fun _ hp=>(by cases hp) }
theorem Io: ∀(l acc:List Nat) (s:Nat),(s∈l∨s∈acc)→s∈mN l acc
 |[],acc,s,h=>h.elim (fun h=>by cases h) id
 |x::r,acc,s,h=>by
  simp only [mN];refine Io r _ s ?_;rcases h with h|h
  ·rcases List.mem_cons.1 h with rfl|h
   ·right;split
    ·rename_i hc;simpa using hc
    ·exact eY ..
   ·exact .inl h
  ·right;split
   ·exact h
   ·exact dc _ h
theorem QP.mono {K K':kL} (h: ∀ex e w X,K ex e w X→K' ex e w X) (ex:Exit) (a:Act) (w:World) (hq:QP pl ds K ex a w):QP pl ds K' ex a w:=by
 cases ex<;>simp only [QP] at hq⊢
 case panic ch=>obtain⟨h1,env,X,w0,h2,h3,h4⟩:=hq;exact⟨h1,env,X,w0,h2,h _ _ _ _ h3,h4⟩
 all_goals (obtain⟨env,X,w0,h2,h3⟩:=hq;exact⟨env,X,w0,h2,h _ _ _ _ h3⟩)
theorem Jp: ∀(c:Code) (t:T) (K:kL) (env:Env) (X:XS) (w0:World) (a:Act) (w:World),
  iX P pl c=some t→(∀b,b∈t.mk→ ∀p,p∈ds.pins→p.1≠b)→dQ pl ds .start env X w0 a w→den P t K env w0 X→c.wp P (QP pl ds K) a w:=by
 intro c
 induction c with
 |skip=>
  intro t K env X w0 a w hc hm h hd;simp only [iX,av] at hc;subst hc;exact wp_skip ⟨env,X,w0,h,hd⟩
 |region id ops draw=>
  intro t K env X w0 a w hc hm h hd;have hN: ∀pR a' w' cQ X' dF,dQ pl ds pR cQ X' dF a' w'→(fun e w X=>K .normal e w X) cQ dF X'→QP pl ds K .normal a' w':=
   fun pR a' w' cQ X' dF h1 h2=>⟨cQ,X',dF,h1.drop,h2⟩
  have hQ: ∀ch a' w' cQ X' dF,a'.defers=ds.ds→Kp X' dF w'→qI pl ds cQ X' a' w'→(fun ch=>K (.panic ch)) ch cQ dF X'→QP pl ds K (.panic ch) a' w':=
   fun ch a' w' cQ X' dF h0 h1 vH h2=>⟨h0,cQ,X',dF,h1,h2,vH⟩
  simp only [iX] at hc;split at hc
  ·rename_i W3;subst W3;split at hc
   ·rename_i Kx;simp only [aO] at Kx;refine wp_region_any Kx.1 (Hz (pl:=pl) _ _ _ _ ?_);have Bv: ∀c a (d:Option Nat) v w,(∀x,d=some x→ ∀p,p∈ds.pins→p.1≠x)→QP pl ds K (.panic c) (a.put d v) w→QP pl ds K (.panic c) a w:=fun c a d v w hd hq=>by
     obtain⟨h1,e,X',dF,h2,h3,h4⟩:=hq;exact⟨by cases d<;>exact h1,e,X',dF,h2,h3,h4.put hd⟩
    split at hc
    ·rename_i tl hl;simp only [av] at hc;subst hc;exact zm hN hQ Bv Kx.2 _ _ _ tl env X w0 _ _ hl hm (h.jf (Ext.drew w)) hd
    ·exact Gx hN hQ Bv Kx.2 _ _ _ t env X w0 _ _ hc hm (h.jf (Ext.drew w)) hd
   ·cases hc
  ·rename_i W3;simp only [Bool.not_eq_true] at W3;subst W3;cases hl:Ak P pl ops ops.toList .start with
   |none=>simp [hl] at hc
   |some tl=>
    simp only [hl,bc,av] at hc;subst hc;exact wp_region_list (HI hN hQ ops.toList .start tl env X w0 a w hl hm h hd)
 |seq x y ihx ihy=>
  intro t K env X w0 a w hc hm h hd;simp only [iX] at hc;cases hx:iX P pl x with
  |none=>simp [hx] at hc
  |some tx=>
   cases hy:iX P pl y with
   |none=>simp [hx,hy] at hc
   |some ty=>
    simp only [hx,hy,av] at hc;have TG:den P (.seq tx ty) K env w0 X:=by
     subst hc;split at hd
     ·exact hd
     ·show den P tx (kL.Qn (fun e w X=>den P .skip K e w X) K) env w0 X
      refine jV tx hd fun ex e w' X' _ _ hq=>?_;cases ex<;>exact hq
     ·exact hd
    have hmm: ∀b,b∈tx.mk∨b∈ty.mk→ ∀p,p∈ds.pins→p.1≠b:=fun b hb=>hm b (by
     rw [←hc];split
     ·exact hb.resolve_left (fun h=>by cases h)
     ·exact hb.resolve_right (fun h=>by cases h)
     ·exact List.mem_append.2 hb)
    refine wp_seq (wp_mono (ihx tx _ env X w0 a w hx (fun b hb=>hmm b (.inl hb)) h TG) fun ex a' w' hq=>?_);cases ex with
    |normal=>
     obtain⟨e,X',dF,h1,h2⟩:=hq;exact ihy ty K e X' dF a' w' hy (fun b hb=>hmm b (.inr hb)) h1 h2
    |exit i=>exact hq
    |goto i=>exact hq
    |ret=>exact hq
    |panic c=>exact hq
    |outgrown=>exact hq
 |cond c x y ihx ihy=>
  intro t K env X w0 a w hc hm h hd;simp only [iX] at hc;cases hv:valOf pl .start c with
  |none=>simp [hv] at hc
  |some e=>
   cases hx:iX P pl x with
   |none=>simp [hv,hx] at hc
   |some tx=>
    cases hy:iX P pl y with
    |none=>simp [hv,hx,hy] at hc
    |some ty=>
     simp only [hv,hx,hy,av] at hc;subst hc;have he:=h.eval hv;simp only [den,au] at hd;split at hd
     ·rename_i b hb;rw [hb] at he;exact wp_cond_split he (fun ht=>ihx tx K env X w0 a w hx (fun b hb=>hm b (bC _ hb)) h (hd.1 ht)) (fun ht=>ihy ty K env X w0 a w hy (fun b hb=>hm b (cU _ hb)) h (hd.2 ht))
     ·exact hd.elim
 |block id x ih=>
  intro t K env X w0 a w hc hm h hd;simp only [iX] at hc;cases hx:iX P pl x with
  |none=>simp [hx] at hc
  |some tx=>
   simp only [hx,bc,av] at hc;subst hc;refine wp_block (wp_mono (ih tx _ env X w0 a w hx hm h hd) fun ex a' w' hq=>?_);cases ex with
   |exit i=>
    obtain⟨e,X',dF,h1,h2⟩:=hq;simp only [Exit.inBlock,kL.fV] at h2⊢;split
    ·rename_i hi;rw [if_pos hi] at h2;exact⟨e,X',dF,h1,h2⟩
    ·rename_i hi;rw [if_neg hi] at h2;exact⟨e,X',dF,h1,h2⟩
   |normal=>exact hq
   |goto i=>exact hq
   |ret=>exact hq
   |panic c=>exact hq
   |outgrown=>exact hq
 |loop x ih=>
  intro t K env X w0 a w hc hm h hd;simp only [iX] at hc;cases hx:iX P pl x with
  |none=>simp [hx] at hc
  |some tx=>
   simp only [hx,bc,av] at hc;subst hc;obtain⟨J,⟨n0,h0⟩,hJ⟩:=hd;refine Vm (fun n a w=> ∃e X' dF,dQ pl ds .start (merge (mN tx.wr []) e env) X' dF a w∧(∀k,X k→X' k)∧J n (((mN tx.wr []).filter (zj pl.YU)).map e) dF X') ⟨n0,env,X,w0,?_,fun _ h=>h,h0⟩ ?_
   ·have:merge (mN tx.wr []) env env=env:=by
     funext s
     by_cases hs:s∈mN tx.wr []
     ·exact NH hs
     ·exact yq hs
    rw [this];exact h
   ·rintro n a w ⟨e,X',dF,h1,h2,h3⟩;have MX:=hJ n e dF X' h2 h3;have rQ:=jV tx (K':=fun ex e' iH oK=>kL.Qn (fun e' iH oK=> ∃m,m<n∧J m (((mN tx.wr []).filter (zj pl.YU)).map e') iH oK) K ex e' iH oK∧(∀k,X' k→oK k)∧ ∀s,¬s∈tx.wr→e' s=merge (mN tx.wr []) e env s) MX
     fun ex e' w' oK hX he hq=>⟨hq,hX,he⟩
    refine wp_mono (ih tx _ _ X' dF a w hx hm h1 rQ) fun ex a' w' hq=>?_;cases ex with
    |normal=>
     obtain⟨e',oK,xg,g1,⟨m,hm,g2⟩,g3,g4⟩:=hq;refine⟨m,hm,e',oK,xg,?_,fun k hk=>g3 k (h2 k hk),g2⟩;have:merge (mN tx.wr []) e' env=e':=by
      funext s
      by_cases hs:s∈mN tx.wr []
      ·exact NH hs
      ·rw [yq hs,g4 s fun hc=>hs (Io _ _ _ (.inl hc)),yq hs]
     rw [this];exact g1
    |exit i=>obtain⟨e',oK,xg,g1,g2,_⟩:=hq;exact⟨e',oK,xg,g1,g2⟩
    |goto i=>obtain⟨e',oK,xg,g1,g2,_⟩:=hq;exact⟨e',oK,xg,g1,g2⟩
    |ret=>obtain⟨e',oK,xg,g1,g2,_⟩:=hq;exact⟨e',oK,xg,g1,g2⟩
    |panic c=>obtain⟨g0,e',oK,xg,g1,⟨g2,_⟩,g3⟩:=hq;exact⟨g0,e',oK,xg,g1,g2,g3⟩
    |outgrown=>exact hq
 |exit id=>
  intro t K env X w0 a w hc hm h hd;simp only [iX,av] at hc;subst hc;exact wp_exit ⟨env,X,w0,h,hd⟩
 |ret=>
  intro t K env X w0 a w hc hm h hd;simp only [iX,av] at hc;subst hc;exact wp_ret ⟨env,X,w0,h,hd⟩
 |rangeFunc=>intro t K env X w0 a w hc;cases hc
 |scope=>intro t K env X w0 a w hc;cases hc
 |label=>intro t K env X w0 a w hc;cases hc
 |goto=>intro t K env X w0 a w hc;cases hc
 |refuse=>intro t K env X w0 a w hc;cases hc
def RH (tmps:Array Value):ResultVar→Sem Value
 | .tmp t=>pure (tmps.getD t undef)
 | .cell c t=>do loadVar t (←asAddr (tmps.getD c undef))
theorem NI {env:Env} {X:XS} {w0 w:World} {a:Act} {cs:CS} (h:dQ pl ds cs env X w0 a w): ∀(l:List ResultVar) (es:List Ex) (nd:List Nat),
  wY P pl l=some (es,nd)→(∀b,b∈nd→bP (env b)=true)→
  (l.mapM (RH a.tmps)).run P w=Result.ok (es.map (·.ev env)) w
 |[],es,nd,hc,_=>by
  simp only [wY,av,da] at hc;rw [←hc.1];rfl
 | .tmp t::r,es,nd,hc,hl=>by
  simp only [wY] at hc;split at hc
  ·rename_i hg;cases hr:wY P pl r with
   |none=>simp [hr] at hc
   |some x=>
    obtain⟨QN,nd'⟩:=x;simp only [hr,bc,av,da] at hc;obtain⟨rfl,rfl⟩:=hc;have ih:=NI h r QN nd' hr hl;simp [List.mapM_cons,RH,ih,h.lx t hg,Ex.ev]
  ·cases hc
 | .cell c t::r,es,nd,hc,hl=>by
  simp only [wY] at hc;split at hc
  ·rename_i bs ag sz hb ht;split at hc
   ·rename_i lF;simp only [aO,decide_eq_true_eq] at lF;cases hr:wY P pl r with
    |none=>simp [hr] at hc
    |some x=>
     obtain⟨QN,nd'⟩:=x;simp only [hr,bc,av,da] at hc;obtain⟨rfl,rfl⟩:=hc;have ih:=NI h r QN nd' hr fun b hb=>hl b (dc _ hb);obtain⟨cells,Dd⟩:=oq.1 (hl c (eY ..));obtain⟨k,ty,e1,e2,e3,_⟩:=h.box c bs hb cells Dd;have hld:=HD ht lF.2 e2 0 zQ;have acZ:(loadVar t ⟨k,0,none⟩).run P w= .ok (if ag then bV (.agg cells) 0 sz else cellOf (.agg cells) 0) w:=by
      simpa [fN,gR,dV] using hld
     have CH:(if ag then Ex.s c 0 sz else Ex.k c 0).ev env=if ag then bV (.agg cells) 0 sz else cellOf (.agg cells) 0:=by
      cases ag<;>simp [Ex.ev,Dd]
     simp [List.mapM_cons,RH,ih,e1,dV,asAddr,acZ,CH]
   ·cases hc
  ·cases hc
theorem EG {env:Env} {X:XS} {w0 w:World} {a:Act} {cs:CS} (h:dQ pl ds cs env X w0 a w) {fn:Func} {es:List Ex} {nd:List Nat}
  (hc:wY P pl fn.results.toList=some (es,nd)) (hl: ∀b,b∈nd→bP (env b)=true):(results fn a.tmps).run P w= .ok (MF es env) w:=by
 have hr:=NI h _ _ _ hc hl;have hf:results fn a.tmps=(do let vs←fn.results.mapM (RH a.tmps);pure (if h:vs.size=1 then vs[0] else .tuple vs)):=by
  unfold results
  congr 2
 rw [hf,Array.mapM_eq_mapM_toList];simp only [bI,Sem.run_map,hr,aV,bZ]
 congr 1
 match es with
 |[]=>rfl
 |[e]=>rfl
 |e::e'::r=>simp [MF]
def GR (P:Program) (o:Option FT) (R:Ending→World→Prop) (args:Array Value) (w:World):Prop:=match o with
 |some ft=>den P ft.code (MG ft R) (jJ args) w (aS w)
 |none=>False
theorem NJ {f:FuncId} {fn:Func} {pl:ba} {ft:FT} {args:Array Value} {w:World} {R:Ending→World→Prop} (hf:P.funcs[f]? =some fn)
  (hc:cF P pl fn=some ft) (W1:args.size≤pl.n) (rH:(pl.boxes.all fun p=>decide (args.size≤p.1))=true)
  (h:den P ft.code (MG ft R) (jJ args) w (aS w)):Calls P f args w R:=by
 unfold cF at hc;split at hc
 ·rename_i hn;have jE:fn.ntmps=pl.n:=by simpa using hn
  split at hc
  ·rename_i c hb;split at hc
   ·rename_i t r nd abM Jq;injection hc with hc
    subst hc;refine calls_of_wp hf hb (wp_mono (Jp (pl:=pl) (ds:=⟨[],[]⟩) c t (MG ⟨t,r,nd⟩ R) (jJ args) (aS w) w _ w abM (fun _ _ _ hp=>by cases hp) ?_ h) fun ex a' w' hq=>?_)
    ·have RI:(args++de (fn.ntmps-args.size) undef).size=pl.n:=by simp;omega
     have GS: ∀s,s<pl.n→(args++de (fn.ntmps-args.size) undef)[s]? =some (jJ args s):=by
      intro s hs;rw [gK];split
      ·rename_i h1;simp [jJ,iG,h1]
      ·rename_i h1;rw [gg,if_pos zQ];simp only [jJ,iG];rw [fy (by simpa using h1)];rfl
     have Du: ∀b n,look pl.boxes b=some n→jJ args b=undef:=by
      intro b n hb;have h1:=List.all_eq_true.1 rH _ (uu hb);simp only [decide_eq_true_eq] at h1;simp only [jJ,iG];rw [fy (by simpa using h1)];rfl
     exact {
      size:=RI
      defers:=rfl
      rP:=fun _ hp=>(by cases hp)
      ext:=Kp.refl _ _
      oZ:=fun _ hk=>hk
      lx:=fun s hs=>GS s (lY hs).1
      sig:=fun _ hp=>(by cases hp)
      box:=fun b n hb cells hc=>by rw [Du b n hb] at hc;cases hc
      inj:=fun b b' n n' hb fp h1=>by rw [Du b n hb] at h1;cases h1
      conv:=fun b n hb k hk=>by
       have h1:=List.all_eq_true.1 rH _ (uu hb);simp only [decide_eq_true_eq] at h1;rw [gK,if_neg zQ,gg] at hk;split at hk
       ·cases hk
       ·cases hk
      live:=fun _ hp=>(by cases hp)
      ptr:=fun _ hp=>(by cases hp) }
    ·cases ex with
     |normal=>
      obtain⟨e,X',dF,h1,hq⟩:=hq;obtain⟨h2,h3⟩:=cX.1 hq;exact⟨h1.defers,_,EG h1 Jq (List.all_eq_true.1 h2),h3 w' h1.ext⟩
     |ret=>
      obtain⟨e,X',dF,h1,hq⟩:=hq;obtain⟨h2,h3⟩:=cX.1 hq;exact⟨h1.defers,_,EG h1 Jq (List.all_eq_true.1 h2),h3 w' h1.ext⟩
     |panic ch=>
      obtain⟨h0,e,X',dF,h1,h2,_⟩:=hq;exact⟨h0,h2 w' h1⟩
     |exit i=>obtain⟨e,X',dF,h1,h2⟩:=hq;exact h2
     |goto i=>obtain⟨e,X',dF,h1,h2⟩:=hq;exact h2
     |outgrown=>exact hq.elim
   ·cases hc
  ·cases hc
 ·cases hc
theorem aL {f:FuncId} {fn:Func} {pl:ba} {args:Array Value} {w:World} {R:Ending→World→Prop} {V:Prop} (hf:P.funcs[f]? =some fn)
  (hs:(decide (args.size≤pl.n)&&pl.boxes.all fun p=>decide (args.size≤p.1))=true) (hv:V=GR P (cF P pl fn) R args w) (h:V):Calls P f args w R:=by
 subst hv;unfold GR at h;simp only [aO,decide_eq_true_eq] at hs;split at h
 ·rename_i ft hc;exact NJ hf hc hs.1 hs.2 h
 ·exact h.elim
end
def aw (P:Program) (X:XS) (w:World) (s:Sem Next) (N:Value→Prop):Prop:= ∃v,Rd P X w s v∧N v
def ad (P:Program) (X:XS) (w:World) (s:Sem Value) (N:Value→Prop):Prop:=aw P X w (vS s) N
def aG (P:Program) (X:XS) (w:World) (g:Value) (want:Bool) (s:Sem Next) (N:Value→Prop):Prop:=
 ∃v,(jw g want=true→Rd P X w s v)∧(jw g want=false→v=undef)∧N v
def aK (g:Value) (want:Bool) (v:Value):Value:=if jw g want then v else undef
def aM (c a b:Value):Sem Next:=do pure (.value (if←asBool c then a else b))
def az (x:Value):Sem Next:=execOp (fun _=>x) (Jb (.nilCheck (.tmp 0)) 0)
def aD (op:BinOp) (t:TypeId) (xo yo:Operand) (x y:Value):Sem Value:=do eqGuard op t xo yo x y;binOp op t x y
def uS (s:Sem Unit):Sem Next:=do s;pure .skip
def pn (R:Ending→World→Prop):List PanicEntry→World→XS→Prop:=fun ch w X=> ∀wa,Kp X w wa→R (.panicked ch) wa
def eW (P:Program) (R:Ending→World→Prop) (X:XS) (w:World) (m:Bool) (s:Sem Next) (N:Value→World→XS→Prop):Prop:=
 ∀wa,Kp X w wa→iy P m X wa N (pn R) (s.run P wa)
def eV (P:Program) (R:Ending→World→Prop) (X:XS) (w:World) (m:Bool) (s:Sem Value) (N:Value→World→XS→Prop):Prop:=eW P R X w m (vS s) N
def eU (P:Program) (R:Ending→World→Prop) (X:XS) (w:World) (m:Bool) (s:Sem Unit) (N:Value→World→XS→Prop):Prop:=eW P R X w m (uS s) N
def eC (P:Program) (R:Ending→World→Prop) (X:XS) (w:World) (m:Bool) (f:FuncId) (args:Array Value) (N:Value→World→XS→Prop):Prop:=eW P R X w m (callFunc f args) N
def eF (P:Program) (R:Ending→World→Prop) (X:XS) (w:World) (m:Bool) (f:Value) (args:Array Value) (N:Value→World→XS→Prop):Prop:=eW P R X w m (Ai f args) N
def gE (g:Value) (want:Bool) (A B:Prop):Prop:=(jw g want=true→A)∧(jw g want=false→B)
def fin (R:Ending→World→Prop) (X:XS) (w:World) (v:Value):Prop:= ∀wa,Kp X w wa→R (.returned v) wa
abbrev JT:=Nat→List Value→World→XS→Prop
def zC (J:JT) (n:Nat) (vs:List Value) (w:World) (X:XS):Prop:= ∃m,m<n∧J m vs w X
def KL (X:XS) (w:World) (vs:List Value) (C:List Nat) (B:JT→Nat→Env→World→XS→Prop):Prop:=
 ∃J:JT,(∃n,J n vs w X)∧ ∀n (e:Env) w' X',(∀k,X k→X' k)→J n (C.map e) w' X'→B J n e w' X'
variable {P : Program} {R : Ending → World → Prop} {X : XS} {w : World} {m : Bool}
theorem zD {s:Sem Value} {N:Value→Prop} (v:Value) (h: ∀wa,Kp X w wa→s.run P wa= .ok v wa) (k:N v):ad P X w s N:=
 ⟨v,fun wa hk=>by simp [vS,h wa hk],k⟩
theorem cg {s:Sem Value} {N:Value→Prop} {v:Value} (h: ∀wa,s.run P wa= .ok v wa) (k:N v):ad P X w s N:=
 zD v (fun wa _=>h wa) k
theorem NK {s:Sem Next} {N:Value→Prop} {v:Value} (h: ∀wa,s.run P wa= .ok (.value v) wa) (k:N v):aw P X w s N:=
 ⟨v,fun wa _=>h wa,k⟩
theorem zF {α:Type} [BEq α] [LawfulBEq α] [DecidableEq α] (a b:α):(a==b)=decide (a=b):=by
 by_cases h:a=b<;>simp [h]
section
variable {N : Value → Prop} {t : TypeId} {k : IntKind} {a b : Int} {xo yo : Operand}
theorem Yl (h:N (.bool (decide (a<b)))):ad P X w (binOp .lss t (.int k a) (.int k b)) N:=cg (fun wa=>by simp [binOp,lE]) h
theorem Ym (h:N (.bool (decide (a≤b)))):ad P X w (binOp .leq t (.int k a) (.int k b)) N:=cg (fun wa=>by simp [binOp,lE]) h
theorem Yn (h:N (.bool (decide (a>b)))):ad P X w (binOp .gtr t (.int k a) (.int k b)) N:=cg (fun wa=>by simp [binOp,lE]) h
theorem Yo (h:N (.bool (decide (a≥b)))):ad P X w (binOp .geq t (.int k a) (.int k b)) N:=cg (fun wa=>by simp [binOp,lE]) h
theorem jo (h:N (.int k (k.wrap (a+b)))):ad P X w (binOp .add t (.int k a) (.int k b)) N:=cg (fun wa=>by simp [binOp,sW]) h
theorem Yp (h:N (.int k (k.wrap (a-b)))):ad P X w (binOp .sub t (.int k a) (.int k b)) N:=cg (fun wa=>by simp [binOp,sW]) h
theorem Yq (h:N (.int k (k.wrap (a*b)))):ad P X w (binOp .mul t (.int k a) (.int k b)) N:=cg (fun wa=>by simp [binOp,sW]) h
theorem Yr (h:N (.bool (decide (a=b)))):ad P X w (aD .eql t xo yo (.int k a) (.int k b)) N:=
 cg (fun wa=>by simp [aD,eqGuard,binOp,lE,zF]) h
theorem Ys (h:N (.bool (decide (a≠b)))):ad P X w (aD .neq t xo yo (.int k a) (.int k b)) N:=
 cg (fun wa=>by simp [aD,eqGuard,binOp,lE,bne,zF]) h
end
section
variable {N : Value → Prop} {t : TypeId} {a b : ByteArray} {xo yo : Operand}
theorem Vn (h:N (.bool (decide (a.toList=b.toList)))):ad P X w (aD .eql t xo yo (.string a) (.string b)) N:=
 cg (fun wa=>by simp [aD,eqGuard,binOp,oO,zF]) h
theorem Vo (h:N (.bool (decide (a.toList≠b.toList)))):ad P X w (aD .neq t xo yo (.string a) (.string b)) N:=
 cg (fun wa=>by simp [aD,eqGuard,binOp,oO,zF]) h
theorem Vp (h:N (.bool (!gx a.toList b.toList))):ad P X w (binOp .geq t (.string a) (.string b)) N:=
 cg (fun wa=>by simp [binOp,oO]) h
theorem Vq (h:N (.bool (gx a.toList b.toList||decide (a.toList=b.toList)))):ad P X w (binOp .leq t (.string a) (.string b)) N:=
 cg (fun wa=>by simp [binOp,oO,zF]) h
end
section
variable {N : Value → Prop} {t : TypeId} {k : FloatKind} {a b : Nat} {xo yo : Operand}
theorem Vr (h:N (.bool (k.format.order a b==some .lt))):ad P X w (binOp .lss t (.float k a) (.float k b)) N:=cg (fun wa=>by simp [binOp,lM]) h
theorem Vs (h:N (.bool (k.format.order a b==some .lt||k.format.order a b==some .eq))):ad P X w (binOp .leq t (.float k a) (.float k b)) N:=
 cg (fun wa=>by simp [binOp,lM]) h
theorem Vt (h:N (.bool (k.format.order a b==some .gt))):ad P X w (binOp .gtr t (.float k a) (.float k b)) N:=cg (fun wa=>by simp [binOp,lM]) h
theorem Vu (h:N (.bool (k.format.order a b==some .gt||k.format.order a b==some .eq))):ad P X w (binOp .geq t (.float k a) (.float k b)) N:=
 cg (fun wa=>by simp [binOp,lM]) h
theorem Vv (h:N (.bool (k.format.order a b !=some .eq))):ad P X w (aD .neq t xo yo (.float k a) (.float k b)) N:=
 cg (fun wa=>by simp [aD,eqGuard,binOp,lM]) h
end
section
variable {N : Value → Prop} {t : TypeId} {k k2 : IntKind} {a b : Int}
theorem zG (hb: ¬b<0) (h:N (.int k (a.fdiv (2^min b.toNat k.bits)))):ad P X w (binOp .shr t (.int k a) (.int k2 b)) N:=
 cg (fun wa=>by simp [binOp,Op.shift,hb]) h
theorem Yt (hb: ¬b<0) (h:N (.int k (k.wrap (a*2^min b.toNat k.bits)))):ad P X w (binOp .shl t (.int k a) (.int k2 b)) N:=
 cg (fun wa=>by simp [binOp,Op.shift,hb]) h
theorem Jr (h:N (.int k (k.wrap (bE k.bits a^^^bE k.bits b).toNat))):ad P X w (binOp .xor t (.int k a) (.int k b)) N:=
 cg (fun wa=>by simp [binOp,Op.intBits]) h
theorem QO (h:N (.int k (k.wrap (bE k.bits a&&& bE k.bits b).toNat))):ad P X w (binOp .and t (.int k a) (.int k b)) N:=
 cg (fun wa=>by simp [binOp,Op.intBits]) h
end
section
variable {N : Value → Prop} {b c : Bool} {g : Value}
theorem QQ (h:N (.bool (!b))):ad P X w (aQ .not (.bool b)) N:=cg (fun wa=>by simp [aQ]) h
theorem NL {x y:Value} (h:N (if b then x else y)):aw P X w (aM (.bool b) x y) N:=NK (fun wa=>by simp [aM,asBool]) h
theorem TH {x y:Value} (h:N x):aw P X w (aM (.bool true) x y) N:=NL h
theorem TJ {x y:Value} (h:N y):aw P X w (aM (.bool false) x y) N:=NL h
theorem EH {s:Sem Next} {want:Bool} (h:aw P X w s N):aG P X w (.bool want) want s N:=by
 obtain⟨v,hv,hn⟩:=h;exact⟨v,fun _=>hv,fun hf=>absurd hf (by simp [jw]),hn⟩
theorem NM {s:Sem Next} {want:Bool} (h:N undef):aG P X w (.bool (!want)) want s N:=
 ⟨undef,fun hf=>absurd hf (by cases want<;>simp [jw]),fun _=>rfl,h⟩
theorem Vw {s:Sem Next} (h:aw P X w s N):aG P X w (.bool true) true s N:=EH h
theorem Vx {s:Sem Next} (h:aw P X w s N):aG P X w (.bool false) false s N:=EH h
theorem TK {s:Sem Next} (h:N undef):aG P X w (.bool false) true s N:=NM (want:=true) h
theorem TL {s:Sem Next} (h:N undef):aG P X w (.bool true) false s N:=NM (want:=false) h
theorem Yu {A B:Prop} (h:b=true→A) (k:b=false→B):au (.bool b) A B:=⟨h,k⟩
theorem RJ {want:Bool} {A B:Prop} (h:b=want→A) (k:b=!want→B):gE (.bool b) want A B:=
 ⟨fun e=>h (by simpa [jw] using e),fun e=>k (by revert e;cases b<;>cases want<;>simp [jw])⟩
theorem ac0 {A B:Prop} (h:A):gE (.bool true) true A B:=RJ (fun _=>h) (by simp)
theorem ac1 {A B:Prop} (h:A):gE (.bool false) false A B:=RJ (fun _=>h) (by simp)
theorem abN {A B:Prop} (h:B):gE (.bool true) false A B:=RJ (by simp) (fun _=>h)
theorem abO {A B:Prop} (h:B):gE (.bool false) true A B:=RJ (by simp) (fun _=>h)
theorem PO {vs:Array Value} {i:Nat} {v:Value} (hi:vs[i]? =some v) (h:N v):ad P X w (aB (.tuple vs) i) N:=
 cg (fun wa=>by simp [aB,hi]) h
theorem Yv {a:Addr} (h:N (.pointer (some a))):aw P X w (az (.pointer (some a))) N:=
 NK (fun _=>rfl) h
theorem NN {t e:TypeId} {xo yo:Operand} {p:Option Addr} (ht:P.underlying t=some (.pointer e)) (h:N (.bool p.isNone)):
  ad P X w (aD .eql t xo yo (.pointer p) (.pointer none)) N:=by
 refine cg (fun wa=>?_) h;have hp:P.pointee t=e:=by simp [Program.pointee,ht]
 have:=run_equal_pointer_nil (P:=P) (w:=wa) t p (by rw [hp];exact ht);simp [aD,eqGuard,binOp,this]
end
theorem aat {f:FuncId} {args:Array Value} {N:Value→World→XS→Prop} (Q:Value→World→World→Prop)
  (hf: ∀wa,(callFunc f args).run P wa= .ok (.enter f args) wa)
  (h: ∀wa,Kp X w wa→Calls P f args wa fun e w'=> ∃v,e= .returned v∧Ext wa w'∧Q v wa w')
  (k: ∀v wa w',Kp X w wa→Ext wa w'→Q v wa w'→N v w' (grow X wa w')):eC P R X w m f args N:=by
 intro wa hk;unfold iy;rw [hf wa];refine⟨rfl,(h wa hk).mono ?_⟩;rintro e w' ⟨v,rfl,hx,hq⟩;exact⟨Step.ej hx,k v wa w' hk hx hq⟩
structure ak (X:XS) (w:World) (X':XS) (w':World):Prop where
 kp:Kp X w w'
 sub: ∀k,X k→X' k
 has: ∀k,X' k→k<w'.heap.size
theorem ak.init (w:World):ak (aS w) w (aS w) w:=⟨Kp.refl _ _,fun _ h=>h,fun _ h=>h⟩
theorem ak.trans {X Y Z:XS} {a b c:World} (h:ak X a Y b) (k:ak Y b Z c):ak X a Z c:=
 ⟨h.kp.trans (k.kp.less h.sub),fun i hi=>k.sub i (h.sub i hi),k.has⟩
theorem ak.ej {X:XS} {w wa w':World} (hX: ∀k,X k→k<w.heap.size) (hk:Kp X w wa) (hx:Ext wa w'):ak X w (grow X wa w') w':=
 ⟨hk.trans (hx.kp fun k h=>aA (hX k h) hk.size),fun _ h=>.inl h,
  fun k h=>h.elim (fun h=>aA (hX k h) (af hk.size hx.size)) (fun h=>h.2)⟩
theorem ak.ext {w w':World} {X:XS} (h:ak (aS w) w X w') {wa:World} (hk:Kp X w' wa):Ext w wa:=(h.kp.trans (hk.less h.sub)).ext
variable {P : Program} {R : Ending → World → Prop} {X : XS} {w : World} {m : Bool}
def Pure (P:Program) (f:FuncId) (args:Array Value) (v:Value):Prop:=
 ∀w,Calls P f args w fun e w'=>e= .returned v∧Ext w w'
def abP (P:Program) (f:FuncId) (args:Array Value) (w:World) (Q:Value→World→Prop):Prop:=
 Calls P f args w fun e w'=> ∃v,e= .returned v∧Ext w w'∧Q v w'
def enters (P:Program) (f:FuncId):Bool:=match P.funcs[f]? with
 |some fn=>!(fn.name== "runtime.NumGoroutine")&&fn.body.isSome
 |none=>false
theorem pI {f:FuncId} (h:enters P f=true) (args:Array Value) (w:World):(callFunc f args).run P w= .ok (.enter f args) w:=by
 unfold enters at h;split at h
 ·rename_i fn hf;simp only [aO,bX] at h;obtain⟨c,hb⟩:=Option.isSome_iff_exists.1 h.2;have hn: ¬fn.name= "runtime.NumGoroutine" :=by simpa using h.1
  simp [callFunc,hf,hn,hb]
 ·cases h
theorem NO {f:FuncId} {args:Array Value} {N:Value→World→XS→Prop} {Q:Value→World→World→Prop}
  (hf:enters P f=true) (hX: ∀k,X k→k<w.heap.size)
  (h: ∀wa,Kp X w wa→abP P f args wa (Q · wa))
  (k: ∀v wa w' X',Kp X w wa→Ext wa w'→(∀k,wa.heap.size≤k→k<w'.heap.size→X' k)→Q v wa w'→ak X w X' w'→N v w' X'):
  eC P R X w m f args N:=by
 refine aat Q (pI hf args) (fun wa hk=>?_) fun v wa w' hk hx hq=>k v wa w' _ hk hx (fun k h1 h2=>.inr ⟨h1,h2⟩) hq (ak.ej hX hk hx);refine(h wa hk).mono ?_;rintro e w' ⟨v,he,hx,hq⟩;exact⟨v,he,hx,hq⟩
theorem QR {f:FuncId} {args:Array Value} {v:Value} {N:Value→World→XS→Prop}
  (hf:enters P f=true) (hX: ∀k,X k→k<w.heap.size) (h:Pure P f args v)
  (k: ∀w' X',ak X w X' w'→N v w' X'):eC P R X w m f args N:=by
 refine NO (Q:=fun u _ _=>u=v) hf hX (fun wa _=>(h wa).mono ?_) fun u wa w' X' _ _ _ hq hs=>hq▸k w' X' hs;rintro e w' ⟨he,hx⟩;exact⟨v,he,hx,rfl⟩
theorem xN {f:FuncId} {args:Array Value} {v:Value} {N:Value→World→XS→Prop} (hf: ∀wa,(callFunc f args).run P wa= .ok (.value v) wa)
  (hX: ∀k,X k→k<w.heap.size) (k: ∀w' X',ak X w X' w'→N v w' X'):eC P R X w m f args N:=by
 intro wa hk;unfold iy;rw [hf wa];exact⟨Step.ej (Ext.refl _),k _ _ (ak.ej hX hk (Ext.refl _))⟩
theorem fm {w0:World} {u v:Value} (hs:ak (aS w0) w0 X w) (h:u=v):fin (fun e w'=>e= .returned v∧Ext w0 w') X w u:=
 fun _ hk=>⟨by rw [h],hs.ext hk⟩
variable {P : Program} {R : Ending → World → Prop} {X : XS} {w : World} {m : Bool} {N : Value → Prop}
abbrev ptr (b o:Nat):Value:=.pointer (some ⟨b,o,none⟩)
def Cells (w:World) (X:XS) (b o:Nat) (l:List Value):Prop:=
 X b∧ ∃cs t fr,w.heap[b]? =some (.cells cs t fr)∧ ∀j v,l[j]? =some v→cs[o+j]? =some v
theorem Cells.kp {b o:Nat} {l:List Value} (h:Cells w X b o l) {w':World} (hk:Kp X w w'):Cells w' X b o l:=by
 obtain⟨hx,cs,t,fr,hb,hc⟩:=h;exact⟨hx,cs,t,fr,by rw [hk.block b hx];exact hb,hc⟩
theorem Cells.mono {b o:Nat} {l:List Value} {Y:XS} (h:Cells w X b o l) (hs: ∀k,X k→Y k):Cells w Y b o l:=⟨hs _ h.1,h.2⟩
theorem Cells.since {b o:Nat} {l:List Value} {Y:XS} {w':World} (h:Cells w X b o l) (hs:ak X w Y w'):Cells w' Y b o l:=(h.kp hs.kp).mono hs.sub
theorem Cells.range {b o:Nat} {l:List Value} (h:Cells w X b o l):w.rangeAt b o l:=by
 obtain⟨_,cs,t,fr,hb,hc⟩:=h;intro j v hj;rw [cell_of_row w b (o+j) cs t fr hb];exact hc j v hj
theorem Cells.lt {b o:Nat} {l:List Value} (h:Cells w X b o l):b<w.heap.size:=by
 obtain⟨_,cs,t,fr,hb,_⟩:=h;exact(Array.getElem?_eq_some_iff.1 hb).1
theorem Cells.part {b o:Nat} {l:List Value} (h:Cells w X b o l) (i n:Nat):Cells w X b (o+i) ((l.drop i).take n):=by
 obtain⟨hx,cs,t,fr,hb,hc⟩:=h;refine⟨hx,cs,t,fr,hb,fun j v hj=>?_⟩;rw [iB] at hj;split at hj
 ·rw [List.getElem?_drop] at hj;rw [Nat.add_assoc];exact hc _ v hj
 ·cases hj
theorem TM {t:TypeId} {b o:Nat} {v:Value} {l:List Value} (h:Cells w X b o (v::l)) (hi:gT P t=some (false,1)) (k:N v):
  ad P X w (fN t (ptr b o)) N:=by
 refine zD v (fun wa hk=>?_) k;have hc:wa.cell? ⟨b,o,none⟩=some v:=(h.kp hk).range 0 v rfl;unfold gT at hi;split at hi
 ·rename_i d i hu xf;simp only [av,da] at hi;have ux:(isAgg t).run P wa= .ok false wa:=by
   cases d<;>simp_all [isAgg,run_underlying hu]
  simp [fN,gR,loadVar,ux,hc]
 ·cases hi
theorem TN {t:TypeId} {b o n:Nat} {l:List Value} (h:Cells w X b o l) (hi:gT P t=some (true,n)) (hn:l.length=n) (k:N (.agg l.toArray)):
  ad P X w (fN t (ptr b o)) N:=by
 refine zD _ (fun wa hk=>?_) k;unfold gT at hi;split at hi
 ·rename_i d i hu xf;simp only [av,da] at hi;exact run_loadAt_mid wa b o t l d (h.kp hk).range hu (by cases d<;>simp_all) (by simp [xf,hi.2,hn])
 ·cases hi
theorem Gb {S f fo sz b o:Nat} (h:fieldInfo P S f=some (fo,sz)) (hz:sz≠0) (k:N (ptr b (o+fo))):ad P X w (Instr.fieldAt S (ptr b o) f) N:=
 cg (fun wa=>Fx h hz b o wa) k
theorem TO {t:TypeId} {parts:Array (Nat×Value)} (cells:Array Value) (h:P.built t parts.toList=some cells) (k:N (.agg cells)):
  ad P X w (Instr.build t parts) N:=
 cg (fun wa=>run_build wa t parts cells h) k
theorem Vy {t ty:TypeId} {s:ByteArray} (ht:P.underlying t=some .string) (k:N (.int .i64 s.size)):ad P X w (iM #[t] ty #[.string s]) N:=
 cg (fun wa=>by simp [iM,run_underlying ht,goInt]) k
def Sl (w:World) (X:XS) (k:Nat) (v:Value) (rows:List (List Value)):Prop:=
 (∀r∈rows,r.length=k)∧rows.length≤2^63-1∧
 ∃base cap,v= .slice base rows.length cap∧(rows≠[]→ ∃b o,base=some ⟨b,o,none⟩∧Cells w X b o rows.flatten)∧
  (base=none→cap=0)∧rows.length≤cap∧cap≤2^63-1
theorem Sl.mono {k:Nat} {v:Value} {rows:List (List Value)} {Y:XS} (h:Sl w X k v rows) (hs: ∀k,X k→Y k):Sl w Y k v rows:=by
 obtain⟨h1,h2,base,cap,hv,hc,hr⟩:=h;exact⟨h1,h2,base,cap,hv,fun dO=>let⟨b,o,hb,jZ⟩:=hc dO;⟨b,o,hb,jZ.mono hs⟩,hr⟩
theorem Sl.kp {k:Nat} {v:Value} {rows:List (List Value)} {w':World} (h:Sl w X k v rows) (hk:Kp X w w'):Sl w' X k v rows:=by
 obtain⟨h1,h2,base,cap,hv,hc,hr⟩:=h;exact⟨h1,h2,base,cap,hv,fun dO=>let⟨b,o,hb,jZ⟩:=hc dO;⟨b,o,hb,jZ.kp hk⟩,hr⟩
theorem Sl.since {k:Nat} {v:Value} {rows:List (List Value)} {Y:XS} {w':World} (h:Sl w X k v rows) (hs:ak X w Y w'):Sl w' Y k v rows:=
 (h.kp hs.kp).mono hs.sub
theorem Sl.aS {k:Nat} {v:Value} {rows:List (List Value)} (h:Sl w X k v rows):Sl w (aS w) k v rows:=by
 obtain⟨h1,h2,base,cap,hv,hc,hr⟩:=h;exact⟨h1,h2,base,cap,hv,fun dO=>let⟨b,o,hb,jZ⟩:=hc dO;⟨b,o,hb,jZ.lt,jZ.2⟩,hr⟩
theorem Sl.nil (w:World) (X:XS) (k:Nat):Sl w X k (.slice none 0 0) []:=⟨by simp,by simp,none,0,rfl,by simp,by simp,by simp,by simp⟩
theorem Sl.one {k:Nat} {v:Value} {rows:List (List Value)} (h:Sl w X k v rows):one v=true:=by
 obtain⟨_,_,_,_,rfl,_⟩:=h;rfl
theorem Dv {k:Nat} : ∀{rows:List (List Value)},(∀r∈rows,r.length=k)→ ∀{i:Nat} {r:List Value},rows[i]? =some r→
  (rows.flatten.drop (i*k)).take k=r
 |[],_,i,r,h=>by simp at h
 |x::rest,hl,0,r,h=>by
  simp only [gq,av] at h;subst h;have:=hl x (by simp);simp [this.symm]
 |x::rest,hl,i+1,r,h=>by
  have hx:=hl x (by simp);rw [gN,List.drop_append,hx,List.drop_eq_nil_of_le (by rw [hx];exact Nat.le_mul_of_pos_left k (Nat.succ_pos i))];have:(i+1)*k-k=i*k:=by rw [Nat.succ_mul];omega
  rw [this,dG];exact Dv (fun r hr=>hl r (by simp [hr])) (by simpa using h)
theorem Vz {t:TypeId} {xs ys:Array Value} {xo yo:Operand} {b:Bool} (hm:P.eqGuardType P.depth t=false)
  (h: ∀wa,(mY 10000 t (.agg xs) (.agg ys)).run P wa= .ok b wa) (k:N (.bool b)):ad P X w (aD .eql t xo yo (.agg xs) (.agg ys)) N:=by
 refine cg (fun wa=>?_) k;simp [aD,run_eqGuard_agg wa .eql t xo yo xs ys hm,run_eql_struct,h]
theorem VA {t:TypeId} {xs ys:Array Value} {xo yo:Operand} {b:Bool} (hm:P.eqGuardType P.depth t=false)
  (h: ∀wa,(mY 10000 t (.agg xs) (.agg ys)).run P wa= .ok b wa) (k:N (.bool (!b))):ad P X w (aD .neq t xo yo (.agg xs) (.agg ys)) N:=by
 refine cg (fun wa=>?_) k;simp [aD,run_eqGuard_agg wa .neq t xo yo xs ys hm,binOp,Op.equal,Op.maxDepth,h]
theorem wrap_i64 {a:Int} (h1: -(2^63)≤a) (h2:a<2^63):IntKind.i64.wrap a=a:=by
 simp only [IntKind.wrap];first
  |omega
  |(simp [IntKind.bits,IntKind.signed];omega)
variable {P : Program} {R : Ending → World → Prop} {X : XS} {w : World} {m : Bool}
structure Grown (X:XS) (w:World) (X':XS) (w':World) (row:Option Nat):Prop where
 os:w'.os=w.os
 tape:w'.tape=w.tape
 output:w'.output=w.output
 size:w.heap.size≤w'.heap.size
 block: ∀k,X k→some k≠row→w'.heap[k]? =w.heap[k]?
 sub: ∀k,X k→X' k
 has: ∀k,X' k→k<w'.heap.size
theorem ak.grown {X0 Y:XS} {w0 w':World} {row:Option Nat} (h:ak X0 w0 X w) (g:Grown X w Y w' row) (hr: ∀k,X0 k→some k≠row):ak X0 w0 Y w':=
 ⟨⟨g.os.trans h.kp.os,g.tape.trans h.kp.tape,g.output.trans h.kp.output,af h.kp.size g.size,
  fun k hk=>(g.block k (h.sub k hk) (hr k hk)).trans (h.kp.block k hk)⟩,fun k hk=>g.sub k (h.sub k hk),g.has⟩
theorem Grown.since {Y:XS} {w':World} {row:Option Nat} {F:XS} (g:Grown X w Y w' row) (hf: ∀k,F k→X k) (hr: ∀k,F k→some k≠row):ak F w Y w':=
 ⟨⟨g.os,g.tape,g.output,g.size,fun k hk=>g.block k (hf k hk) (hr k hk)⟩,fun k hk=>g.sub k (hf k hk),g.has⟩
def Own (w:World) (X:XS) (lo e k:Nat) (v:Value) (rows:List (List Value)):Prop:=
 (∀r∈rows,r.length=k)∧w.ownsRow lo e k v rows.length rows.flatten∧ ∀g,v.ownBlock=some g→X g
theorem Own.nil (w:World) (X:XS) (lo e k:Nat):Own w X lo e k (.slice none 0 0) []:=⟨by simp,World.ownsRow_nil w lo e k,by simp [fz]⟩
theorem Own.sl {lo e k:Nat} {v:Value} {rows:List (List Value)} (h:Own w X lo e k v rows):Sl w X k v rows:=by
 obtain⟨h1,h2,h3⟩:=h;rcases h2.2 with⟨rfl,hn⟩|⟨g,cap,cur,rfl,hb,hg,oN,oo,jZ,ht⟩
 ·have:rows=[]:=eA hn;subst this;exact Sl.nil w X k
 ·have hm:cap≤2^63-1:=oo;refine⟨h1,af oN hm,_,cap,rfl,fun _=>⟨g,0,rfl,h3 g rfl,cur,e,(0,0),hg,fun j v hj=>?_⟩,by simp,oN,hm⟩;rw [←ht,iB] at hj;split at hj
  ·simpa using hj
  ·cases hj
theorem Own.kp {lo e k:Nat} {v:Value} {rows:List (List Value)} {w':World} (h:Own w X lo e k v rows) (hk:Kp X w w'):Own w' X lo e k v rows:=by
 obtain⟨h1,h2,h3⟩:=h;refine⟨h1,⟨h2.1,?_⟩,h3⟩;rcases h2.2 with h|⟨g,cap,cur,rfl,hb,hg,hr⟩
 ·exact .inl h
 ·exact .inr ⟨g,cap,cur,rfl,hb,by rw [hk.block g (h3 g rfl)];exact hg,hr⟩
theorem Own.mono {lo e k:Nat} {v:Value} {rows:List (List Value)} {Y:XS} (h:Own w X lo e k v rows) (hs: ∀k,X k→Y k):Own w Y lo e k v rows:=
 ⟨h.1,h.2.1,fun g hg=>hs g (h.2.2 g hg)⟩
theorem Own.since {lo e k:Nat} {v:Value} {rows:List (List Value)} {Y:XS} {w':World} (h:Own w X lo e k v rows) (hs:ak X w Y w'):Own w' Y lo e k v rows:=
 (h.kp hs.kp).mono hs.sub
theorem Own.low {lo Qt e k:Nat} {v:Value} {rows:List (List Value)} (h:Own w X lo e k v rows) (hl:Qt≤lo):Own w X Qt e k v rows:=by
 obtain⟨h1,h2,h3⟩:=h;refine⟨h1,⟨h2.1,?_⟩,h3⟩;rcases h2.2 with h|⟨g,cap,cur,rfl,hb,hr⟩
 ·exact .inl h
 ·exact .inr ⟨g,cap,cur,rfl,af hl hb,hr⟩
theorem Own.ge {lo e k:Nat} {v:Value} {rows:List (List Value)} (h:Own w X lo e k v rows) {g:Nat} (hg:v.ownBlock=some g):lo≤g∧g<w.heap.size:=h.2.1.lt g hg
theorem Own.tight {lo e k:Nat} {v:Value} {rows:List (List Value)} (h:Own w X lo e k v rows):Own w (fun g=>lo≤g∧g<w.heap.size) lo e k v rows:=
 ⟨h.1,h.2.1,fun _ hg=>h.ge hg⟩
theorem nI {k:Nat} : ∀{rows:List (List Value)},(∀r∈rows,r.length=k)→rows.flatten.length=rows.length*k
 |[],_=>by simp
 |r::rs,h=>by
  rw [gN,ah,h r (by simp),nI fun r hr=>h r (by simp [hr]),bO,Nat.succ_mul,Nat.add_comm]
theorem uE {t e len:Nat} {parts:Array (Nat×Value)} {k:Nat} {rows:List (List Value)} {N:Value→World→XS→Prop} (cells:Array Value) (z:Value)
  (hX: ∀k,X k→k<w.heap.size) (hu:P.underlying t=some (.slice e)) (hz:(P.info? e).bind (fun i=>i.zero.map fun z=>(i.size,z))=some (k,z))
  (RK:0<len*k) (Ip:len*k≤2^24)
  (h:kK (fun i=>some (i*k,k)) ((sX (len*k)).map (z.cells[· % z.cells.size]!)) parts.toList=some cells)
  (AF: ∀r∈rows,r.length=k) (hlen:rows.length=len) (hc:cells.toList=rows.flatten)
  (n: ∀v w' X',ak X w X' w'→Own w' X' w.heap.size e k v rows→N v w' X'):eV P R X w m (fM t len parts) N:=by
 intro wa hk;cases hq:P.info? e with
 |none=>simp [hq] at hz
 |some ie=>
  cases mn:ie.zero with
  |none=>simp [hq,mn] at hz
  |some z'=>
   simp only [hq,mn,dd,bc,av,da] at hz;obtain⟨rfl,rfl⟩:=hz;have hr:=run_buildSlice (P:=P) wa t e len parts cells ie z' hu hq mn zQ zQ h;unfold iy;simp only [vS,bI,hr,aV,bZ];have hx:Ext wa (wa.alloc (.cells cells e)):=Ext.alloc _ _;have jZ:cells.size=len*ie.size:=by
    have:=congrArg List.length hc;simp only [dv] at this;rw [this,nI AF,hlen]
   have abQ:0<ie.size:=Nat.pos_of_ne_zero fun e=>by simp [e] at RK
   have hle:len≤2^24:=af (Nat.le_mul_of_pos_right len abQ) Ip;have BK:=sc (e:=e) (base:=w.heap.size) (size:=ie.size) wa cells len hk.size (by simp only [maxLen];omega) jZ;refine⟨Step.ej hx,n _ _ _ (ak.ej hX hk hx) ⟨AF,by rw [hlen,←hc];exact BK,fun g hg=>?_⟩⟩;simp only [fz,av] at hg;subst hg;exact .inr ⟨bF _,by simp⟩
theorem TP {t e k:Nat} {N:Value→World→XS→Prop} (hX: ∀k,X k→k<w.heap.size) (hu:P.underlying t=some (.slice e)) (hz:(P.info? e).map (·.size)=some k)
  (n: ∀v w' X',ak X w X' w'→Own w' X' w.heap.size e k v []→N v w' X'):eV P R X w m (fM t 0 #[]) N:=by
 intro wa hk;cases hq:P.info? e with
 |none=>simp [hq] at hz
 |some ie=>
  unfold iy;have hr:(fM t 0 #[]).run P wa= .ok (.slice (some ⟨wa.heap.size,0,none⟩) 0 0) (wa.alloc (.cells #[] e)):=by
   simp [fM,run_underlying hu,sizeOf,typeInfo,hq,kK,newRow];have Na: ∀f:Nat→Value,Array.map f (sX 0)= #[]:=fun f=>Array.eq_empty_of_size_eq_zero (by simp);rw [Na]
  simp only [vS,bI,hr,aV,bZ];have hx:Ext wa (wa.alloc (.cells #[] e)):=Ext.alloc _ _;have BK:=sc (e:=e) (base:=w.heap.size) (size:=k) wa #[] 0 hk.size (by simp [maxLen]) (by simp);refine⟨Step.ej hx,n _ _ _ (ak.ej hX hk hx) ⟨by simp,BK,fun g hg=>?_⟩⟩;simp only [fz,av] at hg;subst hg;exact .inr ⟨bF _,by simp⟩
theorem Sl.src {k:Nat} {v:Value} {rows:List (List Value)} (h:Sl w X k v rows):
  v= .slice none 0 0∧rows=[]∨ ∃a cap,v= .slice (some a) rows.length cap∧ ∀j u,rows.flatten[j]? =some u→w.cell? (a.add j)=some u:=by
 obtain⟨h1,h2,base,cap,rfl,hc,hn,hle,_⟩:=h;cases base with
 |none=>
  cases rows with
  |nil=>exact .inl ⟨by simp [hn rfl],rfl⟩
  |cons r rs=>obtain⟨_,_,hh,_⟩:=hc (by simp);cases hh
 |some a=>
  refine .inr ⟨a,cap,rfl,fun j u hj=>?_⟩;cases rows with
  |nil=>simp at hj
  |cons r rs=>
   obtain⟨b,o,hb,jZ⟩:=hc (by simp);cases hb;rw [uv];exact jZ.range j u hj
theorem yr {t ty e k bytes lo:Nat} {v s:Value} {rows dY:List (List Value)} {N:Value→World→XS→Prop} (z:Value)
  (hu:P.underlying t=some (.slice e)) (hi:(P.info? e).bind (fun i=>i.zero.map fun z=>(i.size,i.bytes,z))=some (k,bytes,z)) (sY:z.cells.size=k) (js:0<k)
  (hX: ∀k,X k→k<w.heap.size) (eo:lo≤w.heap.size) (own:Own w X lo e k v rows) (src:Sl w X k s dY) (h1: ∀r∈dY,∀u∈r,one u=true)
  (hb:(rows.length+dY.length)*bytes≤140737488355328) (hl:rows.length+dY.length≤2^63-1)
  (n: ∀v' w' X',Grown X w X' w' v.ownBlock→Own w' X' lo e k v' (rows++dY)→(v'.ownBlock=v.ownBlock∨ ∃g,v'.ownBlock=some g∧w.heap.size≤g)→N v' w' X'):
  eV P R X w true (dH #[t,t] ty #[v,s]) N:=by
 intro wa hk;have own:=own.kp hk;have src:=src.kp hk;cases hq:P.info? e with
 |none=>simp [hq] at hi
 |some ie=>
  cases mn:ie.zero with
  |none=>simp [hq,mn] at hi
  |some z'=>
   simp only [hq,mn,dd,bc,av,da] at hi;obtain⟨rfl,rfl,rfl⟩:=hi;unfold iy;rcases src.src with⟨rfl,rfl⟩|⟨a,cap,rfl,yt⟩
   ·have hr:=run_append_owned_none (P:=P) (w:=wa) lo t ty e ie ie.size hu hq v rows.length rows.flatten own.2.1;simp only [vS,bI,hr,aV,bZ];have hx:=Ext.refl wa;have hs:=ak.ej hX hk hx;refine⟨Step.ej hx,n _ _ _ ⟨hs.kp.os,hs.kp.tape,hs.kp.output,hs.kp.size,fun k h _=>hs.kp.block k h,hs.sub,hs.has⟩ ?_ (.inl rfl)⟩;rw [fY];exact own.mono (fun k h=>Or.inl h)
   ·have pJ:dY.flatten.length=dY.length*ie.size:=nI src.1;obtain⟨v',w',hr,BK,hg,_,fe⟩:=run_append_own_at (P:=P) wa lo t ty e ie z' ie.size ie.bytes hu hq mn rfl rfl sY js v rows.length rows.flatten own.2.1
     a dY.length cap dY.flatten pJ yt (fun u hu=>by
      obtain⟨r,hr,hur⟩:=List.mem_flatten.1 hu;rw [←HE];exact h1 r hr u hur) hl hb (af eo hk.size)
    simp only [vS,bI,hr,aV,bZ];have hgb: ∀k,k<wa.heap.size→some k≠v.ownBlock→w'.heap[k]? =wa.heap[k]? :=hg.block;refine⟨⟨hg.os,hg.tape,hg.output,hg.size,fun k zs sQ=>hg.block k zs fun e=>sQ (own.2.2 k e.symm)⟩,n _ _ _ ?_ ⟨?_,?_,?_⟩ ?_⟩
    ·exact⟨hg.os.trans hk.os,hg.tape.trans hk.tape,hg.output.trans hk.output,af hk.size hg.size,
      fun k hx dO=>(hg.block k (aA (hX k hx) hk.size) dO).trans (hk.block k hx),fun k h=>.inl h,
      fun k h=>h.elim (fun h=>aA (hX k h) (af hk.size hg.size)) (fun h=>h.2)⟩
    ·intro r hr;rcases List.mem_append.1 hr with h|h
     ·exact own.1 r h
     ·exact src.1 r h
    ·rw [ah,List.flatten_append];exact BK
    ·intro g Gc;rcases fe with h|h
     ·exact .inl (own.2.2 g (h▸Gc))
     ·rw [Gc] at h;cases h;exact .inr ⟨bF _,(BK.lt _ Gc).2⟩
    ·rcases fe with h|h
     ·exact .inl h
     ·exact .inr ⟨_,h,hk.size⟩
theorem GU {t e:TypeId} (ht:P.underlying t=some (.slice e)) (d:Nat) (base:Option Addr) (n c:Nat) (w:World):
  (mY (d+1) t (.slice base n c) (.slice none 0 0)).run P w= .ok base.isNone w:=by
 cases base<;>simp [mY,run_underlying ht]
theorem NP {t e:TypeId} {xo yo:Operand} {base:Option Addr} {n c:Nat} {N:Value→Prop} (ht:P.underlying t=some (.slice e)) (h:N (.bool base.isNone)):
  ad P X w (aD .eql t xo yo (.slice base n c) (.slice none 0 0)) N:=by
 refine cg (fun wa=>?_) h;have:(Op.equal t (.slice base n c) (.slice none 0 0)).run P wa= .ok base.isNone wa:=GU ht 9999 base n c wa;simp [aD,eqGuard,binOp,this]
def EI (P:Program):List Field→Nat→Bool
 |[],_=>true
 |f::r,i=>f.name != "_" &&(match P.underlying f.type with|some (.int _)=>true|_=>false)&&f.offset==i&&EI P r (i+1)
theorem wi (w:World) (d:Nat) (as bs:List Int): ∀(fs:List Field) (i:Nat),EI P fs i=true→as.length=i+fs.length→bs.length=i+fs.length→
  (oP (d+1) (as.map (aF .i64)).toArray (bs.map (aF .i64)).toArray fs).run P w= .ok (decide (as.drop i=bs.drop i)) w
 |[],i,_,ha,hb=>by
  simp only [List.length_nil,Nat.add_zero] at ha hb;rw [dS zQ,dS zQ];simp [oP]
 |f::r,i,h,ha,hb=>by
  simp only [EI,aO,bne_iff_ne,ne_eq,beq_iff_eq] at h;obtain⟨⟨⟨hn,hu⟩,ho⟩,hr⟩:=h;simp only [bO] at ha hb;have W4:i<as.length:=by omega
  have hib:i<bs.length:=by omega
  cases hd:P.underlying f.type with
  |none=>simp [hd] at hu
  |some ty=>
   cases ty<;>simp only [hd,aU] at hu
   rename_i q;have ux:(isAgg f.type).run P w= .ok false w:=by simp [isAgg,run_underlying hd]
   have NQ:(part f.type (as.map (aF .i64)).toArray f.offset).run P w= .ok (.int .i64 as[i]) w:=by
    simp [part,ux,ho,W4]
   have Dw:(part f.type (bs.map (aF .i64)).toArray f.offset).run P w= .ok (.int .i64 bs[i]) w:=by
    simp [part,ux,ho,hib]
   have ih:=wi w d as bs r (i+1) hr zQ zQ;have hk:(as.drop i=bs.drop i)↔(as[i]=bs[i]∧as.drop (i+1)=bs.drop (i+1)):=by
    rw [gQ W4,gQ hib,List.cons.injEq]
   simp only [hk];clear hk;by_cases he:as[i]=bs[i]
   ·simp [oP,hn,NQ,Dw,run_equalIn_int w d f.type .i64 q _ _ hd,he,ih]
   ·simp [oP,hn,NQ,Dw,run_equalIn_int w d f.type .i64 q _ _ hd,he]
def gr (P:Program) (t n:Nat):Bool:=match P.underlying t with
 |some (.struct fs)=>fs.toList.length==n&&EI P fs.toList 0&&!P.stoodInHeld t&&!P.eqGuardType P.depth t
 |_=>false
theorem uF {t n:Nat} (h:gr P t n=true) (as bs:List Int) (ha:as.length=n) (hb:bs.length=n) (w:World):
  (mY 10000 t (.agg (as.map (aF .i64)).toArray) (.agg (bs.map (aF .i64)).toArray)).run P w= .ok (decide (as=bs)) w:=by
 unfold gr at h;split at h
 ·rename_i fs hu;simp only [aO,beq_iff_eq,bX] at h;have hf:P.fieldsOf t=fs:=by simp [Program.fieldsOf,hu]
  rw [run_equalIn_struct w 9999 t _ _ (by rw [hf];exact hu) h.1.2,hf];have:=wi (P:=P) w 9998 as bs fs.toList 0 h.1.1.2 (by rw [ha,h.1.1.1];omega) (by rw [hb,h.1.1.1];omega);simpa using this
 ·cases h
theorem yu {t n:Nat} (h:gr P t n=true):P.eqGuardType P.depth t=false:=by
 unfold gr at h;split at h
 ·simp only [aO,bX] at h;exact h.2
 ·cases h
theorem VB {N:Value→Prop} {t:TypeId} {a b c a' b' c':Int} {xo yo:Operand} (h:gr P t 3=true) (k:N (.bool (decide (a=a'∧b=b'∧c=c')))):
  ad P X w (aD .eql t xo yo (.agg #[.int .i64 a,.int .i64 b,.int .i64 c]) (.agg #[.int .i64 a',.int .i64 b',.int .i64 c'])) N:=
 Vz (b:=decide (a=a'∧b=b'∧c=c')) (yu h) (fun wa=>by
  have:=uF h [a,b,c] [a',b',c'] rfl rfl wa;simpa using this) k
theorem VC {N:Value→Prop} {t:TypeId} {a b c a' b' c':Int} {xo yo:Operand} (h:gr P t 3=true) (k:N (.bool (!decide (a=a'∧b=b'∧c=c')))):
  ad P X w (aD .neq t xo yo (.agg #[.int .i64 a,.int .i64 b,.int .i64 c]) (.agg #[.int .i64 a',.int .i64 b',.int .i64 c'])) N:=
 VA (b:=decide (a=a'∧b=b'∧c=c')) (yu h) (fun wa=>by
  have:=uF h [a,b,c] [a',b',c'] rfl rfl wa;simpa using this) k
theorem QS {t:TypeId} {v:Value} {N:Value→World→XS→Prop} (hX: ∀k,X k→k<w.heap.size)
  (n: ∀b w' X',w.heap.size≤b→ak X w X' w'→X' b→w'.heap[b]? =some (.cells v.cells.toList.toArray t (0,0))→N (ptr b 0) w' X'):eV P R X w m (dR t v) N:=by
 intro wa hk;unfold iy;have hr:(dR t v).run P wa= .ok (ptr wa.heap.size 0) (wa.alloc (.cells v.cells t)):=by simp [dR,newVar,newRow]
 simp only [vS,bI,hr,aV,bZ];have hx:Ext wa (wa.alloc (.cells v.cells t)):=Ext.alloc _ _;exact⟨Step.ej hx,n _ _ _ hk.size (ak.ej hX hk hx) (.inr ⟨bF _,by simp⟩) (by simpa using heap_alloc_new wa _)⟩
def bq (w:World) (X:XS) (b:Nat) (cs:List Value) (ty:TypeId):Prop:=X b∧w.heap[b]? =some (.cells cs.toArray ty (0,0))
theorem bq.kp {b:Nat} {cs:List Value} {ty:TypeId} {w':World} (h:bq w X b cs ty) (hk:Kp X w w'):bq w' X b cs ty:=⟨h.1,by rw [hk.block b h.1];exact h.2⟩
theorem bq.mono {b:Nat} {cs:List Value} {ty:TypeId} {Y:XS} (h:bq w X b cs ty) (hs: ∀k,X k→Y k):bq w Y b cs ty:=⟨hs _ h.1,h.2⟩
theorem bq.since {b:Nat} {cs:List Value} {ty:TypeId} {Y:XS} {w':World} (h:bq w X b cs ty) (hs:ak X w Y w'):bq w' Y b cs ty:=(h.kp hs.kp).mono hs.sub
theorem bq.cells {b:Nat} {cs:List Value} {ty:TypeId} (h:bq w X b cs ty):Cells w X b 0 cs:=⟨h.1,_,_,_,h.2,fun j v hj=>by simpa using hj⟩
theorem VD {t sz b o:Nat} {cs:List Value} {ty:TypeId} {v:Value} {N:Value→World→XS→Prop} (h:bq w X b cs ty) (ht:(P.info? t).map (·.size)=some sz)
  (hl:o+sz≤cs.length) (hv:v.cells.size=sz) (h1:v.cells.toList.all one=true) (hX: ∀k,X k→k<w.heap.size)
  (n: ∀w' X',Grown X w X' w' (some b)→bq w' X' b (cP cs o v.cells.toList) ty→N undef w' X'):eU P R X w true (Instr.storeAt t (ptr b o) v) N:=by
 intro wa hk;have hb:=(h.kp hk).2;unfold iy;have hr:=Fy (P:=P) ht hb o (by simpa using hl) v hv h1;simp only [dV] at hr;simp only [uS,bI,hr,aV,bZ];have gy:(wa.setRow b (cP cs o v.cells.toList).toArray).heap.size=wa.heap.size:=by simp
 refine⟨⟨rfl,rfl,rfl,by rw [gy];exact bF _,fun k _ hx=>setRow_other wa b k _ fun e=>hx (e▸h.1)⟩,n _ _ ?_ ⟨.inl h.1,setRow_heap wa b _ _ ty _ hb⟩⟩;refine⟨hk.os,hk.tape,hk.output,by rw [gy];exact hk.size,fun k hx dO=>?_,fun k h=>.inl h,fun k h=>?_⟩
 ·rw [setRow_other wa b k _ (fun e=>dO (by rw [e])),hk.block k hx]
 ·rw [gy];exact h.elim (fun h=>aA (hX k h) hk.size) (fun h=>by have:=h.2;rwa [gy] at this)
variable {P : Program} {α : Type}
end Go.aX
set_option linter.unusedSectionVars false
set_option linter.unusedSimpArgs false
namespace Go.aX
variable {P : Program} {R : Ending → World → Prop} {X : XS} {w : World} {m : Bool} {κ : Type} [DecidableEq κ]
abbrev iI (κ:Type):=κ×Value×Nat
def ml (kv:κ→Value) (x:iI κ):MapEntry:=⟨kv x.1,x.2.1,x.2.2⟩
def nL (k:κ):List (iI κ)→Nat→Option (Nat×Value)
 |[],_=>none
 |x::r,i=>if k=x.1 then some (i,x.2.1)else nL k r (i+1)
structure wI (P:Program) (kt:TypeId) (kv:κ→Value):Prop where
 aC: ∀e k w,(fL e 10000 kt (kv k)).run P w= .ok () w
 find: ∀k (l:List (iI κ)) w,(mz kt (kv k) (l.map (ml kv))).run P w= .ok (nL k l 0) w
 same: ∀k,iP 10000 (kv k) (kv k)=true
theorem Dx (a b:ByteArray):(a==b)=decide (a=b):=by
 rw [beq_toListBytes];have:a.toList=b.toList↔a=b:=by
  constructor
  ·intro h;rw [fD,fD] at h;obtain⟨⟨x⟩⟩:=a;obtain⟨⟨y⟩⟩:=b;simpa using h
  ·intro h;rw [h]
 by_cases h:a=b
 ·simp [h]
 ·simp [h,this]
theorem B7 {kt:TypeId} (h:P.underlying kt=some .string) (e:Bool) (n:Nat) (k:ByteArray) (w:World):
  (fL e (n+1) kt (.string k)).run P w= .ok () w:=by simp [fL,run_underlying h]
theorem GV {kt:TypeId} {fs:Array Field} (h:P.underlying kt=some (.struct fs)) (e:Bool) (n:Nat) (cs:Array Value) (w:World)
  (hr:(forIn fs iQ fun f (_:PUnit)=>(if f.name≠ "_" then(do
    let v←part f.type cs f.offset
    fL e n f.type v
    pure (lk iQ))
   else pure (lk iQ):Sem (ForInStep PUnit))).run P w= .ok iQ w):
  (fL e (n+1) kt (.agg cs)).run P w= .ok () w:=by
 simp only [fL,bI,run_underlying h,aV];exact(congrArg (fun r=>r.andThen fun _ w'=>qo P (Pure.pure ()) w') hr).trans rfl
theorem AG {kt:TypeId} (h:P.underlying kt=some .string):wI P kt (fun s:ByteArray=>Value.string s) where
 aC e k w:=B7 h e 9999 k w
 find k l w:=by
  have: ∀(l:List (iI ByteArray)) (i:Nat),ki .string (.string k) (l.map (ml fun s=>Value.string s)) i=some (nL k l i):=by
   intro l
   induction l with
   |nil=>intro i;rfl
   |cons x r ih=>
    intro i;by_cases hk:k=x.1
    ·simp [ki,ml,qe,nL,hk,Dx]
    ·simp [ki,ml,qe,nL,hk,ih,Dx]
  simp [mz,run_underlying h,this]
 same k:=by simp [iP,Dx]
theorem wj (w:World) (e:Bool) (d:Nat) (as:List Int): ∀(fs:List Field) (i:Nat),EI P fs i=true→as.length=i+fs.length→
  (forIn fs iQ fun f (_:PUnit)=>(if f.name≠ "_" then(do
    let v←part f.type (as.map (aF .i64)).toArray f.offset
    fL e (d+1) f.type v
    pure (lk iQ))
   else pure (lk iQ):Sem (ForInStep PUnit))).run P w= .ok iQ w
 |[],i,_,_=>by simp
 |f::r,i,h,ha=>by
  simp only [EI,aO,bne_iff_ne,ne_eq,beq_iff_eq] at h;obtain⟨⟨⟨hn,hu⟩,ho⟩,hr⟩:=h;simp only [bO] at ha;have W4:i<as.length:=by omega
  cases hd:P.underlying f.type with
  |none=>simp [hd] at hu
  |some ty=>
   cases ty<;>simp only [hd,aU] at hu
   rename_i q;have ux:(isAgg f.type).run P w= .ok false w:=by simp [isAgg,run_underlying hd]
   have NQ:(part f.type (as.map (aF .i64)).toArray f.offset).run P w= .ok (.int .i64 as[i]) w:=by
    simp [part,ux,ho,W4]
   have QC:(fL e (d+1) f.type (.int .i64 as[i])).run P w= .ok () w:=by
    simp [fL,run_underlying hd]
   have ih:=wj w e d as r (i+1) hr zQ;rw [List.forIn_cons];simp only [ne_eq,hn,not_false_eq_true,if_true,bI,NQ,QC,aV,bZ];exact ih
theorem Le (d:Nat) (as:List Int):iP (d+1) (.agg (as.map (aF .i64)).toArray) (.agg (as.map (aF .i64)).toArray)=true:=by
 have: ∀l:List Int,((l.map (aF .i64)).zip (l.map (aF .i64))).all (fun (x,y)=>iP d x y)=true:=by
  intro l
  induction l with
  |nil=>rfl
  |cons x r ih=>
   simp only [bz,List.zip_cons_cons,List.all_cons,ih,Bool.and_true];cases d<;>simp [iP]
 simp [iP,this]
theorem VE {kt n:Nat} (h:gr P kt n=true) (as:κ→List Int) (hlen: ∀k,(as k).length=n) (ac2: ∀a b,as a=as b→a=b):
  wI P kt (fun k:κ=>ai ((as k).map (aF .i64)).toArray) where
 aC e k w:=by
  have h0:=h;unfold gr at h;split at h
  ·rename_i fs hu;simp only [aO,beq_iff_eq,bX] at h;have hr:=wj (P:=P) w e 9998 (as k) fs.toList 0 h.1.1.2 (by rw [hlen,h.1.1.1];omega);rw [Array.forIn_toList] at hr;exact GV hu e 9999 _ w hr
  ·cases h
 find k l w:=by
  have h0:=h;unfold gr at h0;split at h0
  ·rename_i fs hu;have ac3: ∀(l:List (iI κ)) (i:Nat),(nK kt (.agg ((as k).map (aF .i64)).toArray) (l.map (ml fun k=>ai ((as k).map (aF .i64)).toArray)) i).run P w= .ok (nL k l i) w:=by
    intro l
    induction l with
    |nil=>intro i;simp [nK,nL]
    |cons x r ih=>
     intro i;have he:=uF h (as k) (as x.1) (hlen _) (hlen _) w;simp only [bz,nK,ml,Op.equal,Op.maxDepth,bI,he,aV,nL];by_cases hk:k=x.1
     ·subst hk;simp
     ·have: ¬as k=as x.1:=fun e=>hk (ac2 _ _ e);simp only [this,decide_false,aU,if_false,hk];exact ih _
   cases l with
   |nil=>simp [mz,run_underlying hu,ki,nL]
   |cons x r=>
    have:=ac3 (x::r) 0;simp only [mz,bI,run_underlying hu,aV];simp only [bz,ki,ml,qe] at this⊢;exact this
  ·cases h0
 same k:=Le 9999 (as k)
def ka (w:World) (X:XS) (b:Nat) (kv:κ→Value) (es:List (iI κ)) (clock:Nat):Prop:=
 X b∧w.heap[b]? =some (.map (es.map (ml kv)).toArray clock)∧(es.map (·.1)).Nodup∧(es.map (·.2.2)).Nodup∧ ∀x∈es,x.2.2<clock
theorem ka.kp {b:Nat} {kv:κ→Value} {es:List (iI κ)} {c:Nat} {w':World} (h:ka w X b kv es c) (hk:Kp X w w'):ka w' X b kv es c:=
 ⟨h.1,by rw [hk.block b h.1];exact h.2.1,h.2.2⟩
theorem ka.mono {b:Nat} {kv:κ→Value} {es:List (iI κ)} {c:Nat} {Y:XS} (h:ka w X b kv es c) (hs: ∀k,X k→Y k):ka w Y b kv es c:=⟨hs _ h.1,h.2⟩
theorem ka.since {b:Nat} {kv:κ→Value} {es:List (iI κ)} {c:Nat} {Y:XS} {w':World} (h:ka w X b kv es c) (hs:ak X w Y w'):ka w' Y b kv es c:=
 (h.kp hs.kp).mono hs.sub
def yT (k:κ) (es:List (iI κ)):Option Value:=(es.find? fun x=>decide (x.1=k)).map (·.2.1)
theorem NR (k:κ): ∀(es:List (iI κ)) (i:Nat),nL k es i=(es.findIdx? fun x=>decide (x.1=k)).bind fun j=>(es[j]?).map fun x=>(i+j,x.2.1)
 |[],i=>rfl
 |x::r,i=>by
  unfold nL;by_cases h:k=x.1
  ·simp [h,iC]
  ·rw [if_neg h,NR k r (i+1)];have h': ¬x.1=k:=fun e=>h e.symm;simp only [iC,h',decide_false,aU,if_false];cases r.findIdx? fun x=>decide (x.1=k)with
   |none=>rfl
   |some j=>simp [Nat.add_assoc,Nat.add_comm 1 j]
theorem KM (k:κ): ∀(es:List (iI κ)) (i:Nat),(nL k es i).map (·.2)=yT k es
 |[],i=>rfl
 |x::r,i=>by
  unfold nL yT;by_cases h:k=x.1
  ·simp [h]
  ·have h': ¬x.1=k:=fun e=>h e.symm;rw [if_neg h,KM k r (i+1)];simp [yT,h']
theorem RL {t kt et b c:Nat} {kv:κ→Value} {es:List (iI κ)} {k:κ} {N:Value→Prop} (z:Value) (h:ka w X b kv es c) (K:wI P kt kv)
  (ht:P.underlying t=some (.map kt et)) (hz:(P.info? et).bind (·.zero)=some z)
  (n:N (.tuple #[(yT k es).getD z,.bool (yT k es).isSome])):ad P X w (Instr.lookup t (.map (some b)) (kv k) true) N:=by
 refine zD _ (fun wa hk=>?_) n;have hb:=(h.kp hk).2.1;cases hi:P.info? et with
 |none=>simp [hi] at hz
 |some inf=>
  have Hy:inf.zero=some z:=by simpa [hi] using hz
  have hg:=KM k es 0;simp only [Instr.lookup,bI,run_underlying ht,aV,getObj,qo,hb,K.aC,eB,K.find];cases hf:nL k es 0 with
  |none=>
   rw [hf] at hg;simp only [Option.map_none] at hg;simp [zeroValue,typeInfo,hi,Hy,←hg,K.find,hf]
  |some r=>
   rw [hf] at hg;simp only [bc] at hg;simp [←hg,K.find,hf]
theorem RM {t:TypeId} {kv:κ→Value} {N:Value→World→XS→Prop} (hX: ∀k,X k→k<w.heap.size)
  (n: ∀b w' X',w.heap.size≤b→ak X w X' w'→ka w' X' b kv [] 0→N (.map (some b)) w' X'):eV P R X w m (qf t none) N:=by
 intro wa hk;unfold iy;have hr:(qf t none).run P wa= .ok (.map (some wa.heap.size)) (wa.alloc (.map #[] 0)):=by simp [qf]
 simp only [vS,bI,hr,aV,bZ];have hx:Ext wa (wa.alloc (.map #[] 0)):=Ext.alloc _ _;exact⟨Step.ej hx,n _ _ _ hk.size (ak.ej hX hk hx) ⟨.inr ⟨bF _,by simp⟩,by simpa using heap_alloc_new wa _,by simp,by simp,by simp⟩⟩
open Go.ChangeMaps (setBlock)
theorem KN {b:Nat} {o:Obj} {wa:World} (hX: ∀k,X k→k<w.heap.size) (hk:Kp X w wa):Grown X w (grow X wa (setBlock wa b o)) (setBlock wa b o) (some b):=by
 have hs:(setBlock wa b o).heap.size=wa.heap.size:=by simp [setBlock]
 refine⟨hk.os,hk.tape,hk.output,by rw [hs];exact hk.size,fun k hx dO=>?_,fun k h=>.inl h,fun k h=>?_⟩
 ·rw [←hk.block k hx];have:b≠k:=fun e=>dO (by rw [e]);simp [setBlock,dr,this]
 ·rw [hs];exact h.elim (fun h=>aA (hX k h) hk.size) (fun h=>by have:=h.2;rwa [hs] at this)
theorem TQ {b:Nat} {o:Obj} {wa:World} (hb:X b):Fr X wa (setBlock wa b o):=by
 refine⟨rfl,rfl,rfl,by simp [setBlock],fun k _ hx=>?_⟩;have:b≠k:=fun e=>hx (e▸hb);simp [setBlock,dr,this]
theorem NS {b:Nat} {o:Obj} {wa:World} (hb:b<wa.heap.size):(setBlock wa b o).heap[b]? =some o:=by
 simp [setBlock,dr,hb]
theorem run_setObj_map {wa:World} {b:Nat} {es:Array MapEntry} {c:Nat} (hb:wa.heap[b]? =some (.map es c)) (o:Obj):(setObj b o).run P wa= .ok () (setBlock wa b o):=by
 simp [setObj,qo,hb,setBlock]
def xO (k:κ) (v:Value) (c:Nat) (es:List (iI κ)):List (iI κ)×Nat:=
 match es.findIdx? fun x=>decide (x.1=k)with
 |some i=>(es.modify i fun x=>(x.1,v,x.2.2),c)
 |none=>(es++[(k,v,c)],c+1)
theorem uG {β γ:Type} (g:β→γ) (f:β→β) (hf: ∀x,g (f x)=g x): ∀(l:List β) (i:Nat),(l.modify i f).map g=l.map g
 |[],i=>by simp
 |x::r,0=>by simp [hf]
 |x::r,i+1=>by simp [uG g f hf r i]
theorem mem_modify {β:Type} {f:β→β} : ∀{l:List β} {i:Nat} {y:β},y∈l.modify i f→ ∃x∈l,y=x∨y=f x
 |[],i,y,h=>by simp at h
 |x::r,0,y,h=>by
  simp only [List.modify_zero_cons,List.mem_cons] at h;rcases h with h|h
  ·exact⟨x,by simp,.inr h⟩
  ·exact⟨y,by simp [h],.inl rfl⟩
 |x::r,i+1,y,h=>by
  simp only [List.modify_succ_cons,List.mem_cons] at h;rcases h with h|h
  ·exact⟨x,by simp,.inl h⟩
  ·obtain⟨z,hz,he⟩:=mem_modify h;exact⟨z,by simp [hz],he⟩
theorem aau {t kt et b c:Nat} {kv:κ→Value} {es:List (iI κ)} {k:κ} {v:Value} {N:Value→World→XS→Prop} (h:ka w X b kv es c) (K:wI P kt kv)
  (ht:P.underlying t=some (.map kt et)) (hX: ∀k,X k→k<w.heap.size)
  (n: ∀w' X',Grown X w X' w' (some b)→ka w' X' b kv (xO k v c es).1 (xO k v c es).2→N undef w' X'):
  eU P R X w true (gI t (.map (some b)) (kv k) v) N:=by
 intro wa hk;have hM:=h.kp hk;have hb:=hM.2.1;have dA:b<wa.heap.size:=(Array.getElem?_eq_some_iff.1 hb).1;unfold iy;have hr:(gI t (.map (some b)) (kv k) v).run P wa= .ok () (setBlock wa b (.map ((xO k v c es).1.map (ml kv)).toArray (xO k v c es).2)):=by
  simp only [gI,bI,run_underlying ht,aV,getObj,qo,hb,K.aC,eB,K.find,NR];unfold xO;cases hf:es.findIdx? fun x=>decide (x.1=k)with
  |none=>simp [run_setObj_map hb,ml]
  |some j=>
   have hj:=List.findIdx?_eq_some_iff_getElem.1 hf;obtain⟨Ij,Wv,_⟩:=hj;have aav:es[j].1=k:=by simpa using Wv
   simp only [dd,bk Ij,bc,eh,bI];have fv:(qp (((es.map (ml kv)).toArray[j]?).map (·.key)|>.getD (kv k)) (kv k)).run P wa= .ok (kv k) wa:=by
    simp [qp,Ij,ml,aav,K.same]
   rw [fv];simp only [aV,run_setObj_map hb]
   congr 3
   rw [List.modify_toArray]
   congr 1
   apply List.ext_getElem?;intro q;simp only [List.getElem?_modify,dP];by_cases hq:j=q
   ·subst hq;simp [bk Ij,ml,aav]
   ·simp [hq]
 simp only [uS,bI,hr,aV,bZ];refine⟨TQ hM.1,n _ _ (KN hX hk) ⟨.inl h.1,NS dA,?_,?_,?_⟩⟩
 ·unfold xO;cases hf:es.findIdx? fun x=>decide (x.1=k)with
  |none=>
   simp only [bM,bz,List.map_nil];rw [sa];refine⟨h.2.2.1,by simp,fun a ha y hy=>?_⟩;simp only [bU] at hy;subst hy;rintro rfl;obtain⟨x,hx,rfl⟩:=List.mem_map.1 ha;have:=List.findIdx?_eq_none_iff.1 hf x hx;simp at this
  |some j=>simp only;rw [uG (fun x:iI κ=>x.1) (fun x=>(x.1,v,x.2.2)) (fun _=>rfl)];exact h.2.2.1
 ·unfold xO;cases hf:es.findIdx? fun x=>decide (x.1=k)with
  |none=>
   simp only [bM,bz,List.map_nil];rw [sa];refine⟨h.2.2.2.1,by simp,fun a ha y hy=>?_⟩;simp only [bU] at hy;subst hy;rintro rfl;obtain⟨x,hx,he⟩:=List.mem_map.1 ha;have:=h.2.2.2.2 x hx;omega
  |some j=>simp only;rw [uG (fun x:iI κ=>x.2.2) (fun x=>(x.1,v,x.2.2)) (fun _=>rfl)];exact h.2.2.2.1
 ·unfold xO;cases hf:es.findIdx? fun x=>decide (x.1=k)with
  |none=>
   intro x hx;rcases List.mem_append.1 hx with hx|hx
   ·have:=h.2.2.2.2 x hx;show x.2.2<c+1;omega
   ·simp only [bU] at hx;subst hx;exact Nat.lt_succ_self c
  |some j=>
   intro x hx;obtain⟨y,hy,rfl|rfl⟩:=mem_modify hx
   ·exact h.2.2.2.2 _ hy
   ·exact h.2.2.2.2 y hy
def sZ (w:World) (X:XS) (r b:Nat) (kv:κ→Value) (es:List (iI κ)) (c:Nat) (left:List (iI κ)):Prop:=
 ka w X b kv es c∧X r∧r≠b∧ ∃seen:Array Nat,w.heap[r]? =some (.mapIter (some b) c seen c)∧left=es.filter (fun x=>!seen.contains x.2.2)
theorem sZ.kp {r b:Nat} {kv:κ→Value} {es left:List (iI κ)} {c:Nat} {w':World} (h:sZ w X r b kv es c left) (hk:Kp X w w'):sZ w' X r b kv es c left:=
 ⟨h.1.kp hk,h.2.1,h.2.2.1,let⟨s,hs,hl⟩:=h.2.2.2;⟨s,by rw [hk.block r h.2.1];exact hs,hl⟩⟩
theorem sZ.mono {r b:Nat} {kv:κ→Value} {es left:List (iI κ)} {c:Nat} {Y:XS} (h:sZ w X r b kv es c left) (hs: ∀k,X k→Y k):sZ w Y r b kv es c left:=
 ⟨h.1.mono hs,hs _ h.2.1,h.2.2⟩
theorem sZ.since {r b:Nat} {kv:κ→Value} {es left:List (iI κ)} {c:Nat} {Y:XS} {w':World} (h:sZ w X r b kv es c left) (hs:ak X w Y w'):sZ w' Y r b kv es c left:=
 (h.kp hs.kp).mono hs.sub
theorem VF {t kt et b c:Nat} {kv:κ→Value} {es:List (iI κ)} {N:Value→World→XS→Prop} (h:ka w X b kv es c) (ht:P.underlying t=some (.map kt et))
  (hX: ∀k,X k→k<w.heap.size) (n: ∀r w' X',w.heap.size≤r→ak X w X' w'→sZ w' X' r b kv es c es→N (ptr r 0) w' X'):
  eV P R X w m (sU t (.map (some b))) N:=by
 intro wa hk;have hM:=h.kp hk;have hb:=hM.2.1;have dA:b<wa.heap.size:=(Array.getElem?_eq_some_iff.1 hb).1;unfold iy;have hr:(sU t (.map (some b))).run P wa= .ok (ptr wa.heap.size 0) (wa.alloc (.mapIter (some b) c #[] c)):=by
  simp [sU,run_underlying ht,getObj,qo,hb]
 simp only [vS,bI,hr,aV,bZ];have hx:Ext wa (wa.alloc (.mapIter (some b) c #[] c)):=Ext.alloc _ _;have hs:=ak.ej hX hk hx;exact⟨Step.ej hx,n _ _ _ hk.size hs ⟨h.since hs,.inr ⟨bF _,by simp⟩,by omega,#[],heap_alloc_new wa _,(List.filter_eq_self.2 (by simp)).symm⟩⟩
theorem Yw {ty r b c:Nat} {kv:κ→Value} {es left:List (iI κ)} {N:Value→World→XS→Prop} (h:sZ w X r b kv es c left) (hX: ∀k,X k→k<w.heap.size)
  (n0:left=[]→ ∀w' X',ak X w X' w'→N (.tuple #[.bool false]) w' X')
  (n1: ∀x∈left,∀w' X',Grown X w X' w' (some r)→sZ w' X' r b kv es c (left.filter fun y=>decide (y.2.2≠x.2.2))→
   (∀wa,Kp X' w' wa→(jl (ptr r 0)).run P wa= .ok (.tuple #[kv x.1,x.2.1]) wa)→N (.tuple #[.bool true,kv x.1,x.2.1]) w' X'):
  eV P R X w true (Instr.next (ptr r 0) false ty) N:=by
 intro wa hk;obtain⟨hM,hXr,hrb,seen,hr,RN⟩:=h.kp hk;have hb:=hM.2.1;have QB:r<wa.heap.size:=(Array.getElem?_eq_some_iff.1 hr).1;unfold iy;have hold: ∀x∈((es.map (ml kv)).toArray).toList,x.born<c:=by
  intro x hx;simp only [eB,List.mem_map] at hx;obtain⟨y,hy,rfl⟩:=hx;exact hM.2.2.2.2 y hy
 have eo:(leftOf (es.map (ml kv)).toArray seen).toList=left.map (ml kv):=by
  rw [RN];simp only [leftOf,Array.toList_filter,eB,List.filter_map];rfl
 rcases run_next_at (P:=P) wa ty r b c c seen _ c hr hb hold (bF _)with⟨hz,yR⟩|⟨e,he,w1,Ga,yR⟩
 ·simp only [vS,bI,yR,aV,bZ];have h0:left=[]:=by
   have:left.map (ml kv)=[]:=by rw [←eo];exact eA (by simpa using hz)
   simpa using this
  exact⟨Step.ej (Ext.refl _),n0 h0 _ _ (ak.ej hX hk (Ext.refl _))⟩
 ·rw [eo] at he;obtain⟨x,hx,rfl⟩:=List.mem_map.1 he;simp only [vS,bI,yR,aV,bZ];have xG:Kp X w w1:=by
   rcases Ga with rfl|rfl
   ·exact hk
   ·exact⟨hk.os,hk.tape,hk.output,hk.size,hk.block⟩
  have aaw:r<w1.heap.size:=by rcases Ga with rfl|rfl<;>exact QB
  have u3:w1.heap[b]? =some (.map (es.map (ml kv)).toArray c):=by rcases Ga with rfl|rfl<;>exact hb
  have ac4:Fr X wa w1:=by rcases Ga with rfl|rfl<;>exact⟨rfl,rfl,rfl,bF _,fun _ _ _=>rfl⟩
  have NT: ∀o,(setBlock w1 r o).heap[b]? =some (.map (es.map (ml kv)).toArray c):=by
   intro o;rw [←u3];simp [setBlock,dr,hrb]
  have xd:w1.heap.size=wa.heap.size:=by rcases Ga with rfl|rfl<;>rfl
  have abR:grow X wa (setBlock w1 r (.mapIter (some b) c (seen.push x.2.2) c))=grow X w1 (setBlock w1 r (.mapIter (some b) c (seen.push x.2.2) c)):=by
   unfold grow;rw [xd]
  have hG:=KN (o:=.mapIter (some b) c (seen.push x.2.2) c) (b:=r) hX xG;have tL:sZ (setBlock w1 r (.mapIter (some b) c (seen.push x.2.2) c)) (grow X w1 (setBlock w1 r (.mapIter (some b) c (seen.push x.2.2) c))) r b kv es c (left.filter fun y=>decide (y.2.2≠x.2.2)):=by
   refine⟨⟨.inl hM.1,NT _,hM.2.2⟩,.inl hXr,hrb,seen.push x.2.2,NS aaw,?_⟩;rw [RN,List.filter_filter]
   congr 1
   funext y
   by_cases hy:y.2.2=x.2.2<;>simp [hy,Array.contains_push,Bool.beq_eq_decide_eq]
  show Fr X wa _∧N _ _ (grow X wa _)
  refine⟨ac4.trans (TQ hXr),?_⟩
  show N (.tuple #[.bool true,kv x.1,x.2.1]) (setBlock w1 r (.mapIter (some b) c (seen.push x.2.2) c)) (grow X wa (setBlock w1 r (.mapIter (some b) c (seen.push x.2.2) c)))
  rw [abR];refine n1 x hx _ _ hG tL fun wb sd=>?_;have ac5:=tL.kp sd;have hxe:x∈es:=by rw [RN] at hx;exact(List.mem_filter.1 hx).1
  exact run_entry_at (P:=P) wb r b c seen (es.map (ml kv)).toArray c (ml kv x) (by rw [sd.block r (.inl hXr)];exact NS aaw) ac5.1.2.1 (by rw [eB];exact List.mem_map.2 ⟨x,hxe,rfl⟩)
   (by rw [eB,List.map_map];exact hM.2.2.2.1)
theorem VG {r:Nat} {k v:Value} {N:Value→World→XS→Prop} (hX: ∀k,X k→k<w.heap.size)
  (h: ∀wa,Kp X w wa→(jl (ptr r 0)).run P wa= .ok (.tuple #[k,v]) wa) (n: ∀w' X',ak X w X' w'→N (.tuple #[k,v]) w' X'):
  eV P R X w m (jl (ptr r 0)) N:=by
 intro wa hk;unfold iy;simp only [vS,bI,h wa hk,aV,bZ];exact⟨Step.ej (Ext.refl _),n _ _ (ak.ej hX hk (Ext.refl _))⟩
variable {P : Program} {R : Ending → World → Prop} {X : XS} {w : World} {m : Bool} {N : Value → Prop}
def un (e:Value) (M:Value→Prop):Prop:=M e
def jn {α:Type} (r:α) (B:α→Prop):Prop:=B r
def aJ (S f _fo _sz:Nat) (x:Value):Sem Value:=Instr.fieldAt S x f
def ld1 (t:TypeId) (x:Value):Sem Value:=fN t x
def ff (t:TypeId) (_n:Nat) (x:Value):Sem Value:=fN t x
def st1 (t:TypeId) (_n:Nat) (x v:Value):Sem Unit:=Instr.storeAt t x v
def dy (t:TypeId) (_k:Nat) (v i:Value):Sem Value:=Instr.indexAt t v i
def cY (t ty:TypeId) (v:Value):Sem Value:=iM #[t] ty #[v]
def mm (t ty:TypeId) (v:Value):Sem Value:=iM #[t] ty #[v]
def dK (t:TypeId) (_cells:Array Value) (parts:Array (Nat×Value)):Sem Value:=Instr.build t parts
def nv (_k:IntKind) (src dst:TypeId) (x:Value):Sem Value:=convert src dst x
def Bw (src dst:TypeId) (x:Value):Sem Value:=convert src dst x
def zn (t _n _e:Nat) (x i:Value):Sem Value:=sV t x i
def fR (t _e _k len:Nat) (parts:Array (Nat×Value)):Sem Value:=fM t len parts
def gf (t _e _k _bytes ty:Nat) (v s:Value):Sem Value:=dH #[t,t] ty #[v,s]
def W5 (S f _fo _sz:Nat) (x:Value):Sem Value:=Instr.field S x f
abbrev I (x:Int):Value:=.int .i64 x
abbrev B (x:Bool):Value:=.bool x
def FB (X:XS) (w:World) (F:JT→Nat→World→XS→Prop):Prop:=KL X w [] [] fun J n _ w X=>F J n w X
def gU (X:XS) (w:World) (v1:Value) (c1:Nat) (F:JT→Nat→Value→World→XS→Prop):Prop:=KL X w [v1] [c1] fun J n e w X=>F J n (e c1) w X
def ja (X:XS) (w:World) (v1 v2:Value) (c1 c2:Nat) (F:JT→Nat→Value→Value→World→XS→Prop):Prop:=
 KL X w [v1,v2] [c1,c2] fun J n e w X=>F J n (e c1) (e c2) w X
def vT (X:XS) (w:World) (v1 v2 v3:Value) (c1 c2 c3:Nat) (F:JT→Nat→Value→Value→Value→World→XS→Prop):Prop:=
 KL X w [v1,v2,v3] [c1,c2,c3] fun J n e w X=>F J n (e c1) (e c2) (e c3) w X
def FC (X:XS) (w:World) (v1 v2 v3 v4:Value) (c1 c2 c3 c4:Nat) (F:JT→Nat→Value→Value→Value→Value→World→XS→Prop):Prop:=
 KL X w [v1,v2,v3,v4] [c1,c2,c3,c4] fun J n e w X=>F J n (e c1) (e c2) (e c3) (e c4) w X
def FE (X:XS) (w:World) (v1 v2 v3 v4 v5:Value) (c1 c2 c3 c4 c5:Nat) (F:JT→Nat→Value→Value→Value→Value→Value→World→XS→Prop):Prop:=
 KL X w [v1,v2,v3,v4,v5] [c1,c2,c3,c4,c5] fun J n e w X=>F J n (e c1) (e c2) (e c3) (e c4) (e c5) w X
def FF (X:XS) (w:World) (v1 v2 v3 v4 v5 v6:Value) (c1 c2 c3 c4 c5 c6:Nat) (F:JT→Nat→Value→Value→Value→Value→Value→Value→World→XS→Prop):Prop:=
 KL X w [v1,v2,v3,v4,v5,v6] [c1,c2,c3,c4,c5,c6] fun J n e w X=>F J n (e c1) (e c2) (e c3) (e c4) (e c5) (e c6) w X
def FG (X:XS) (w:World) (v1 v2 v3 v4 v5 v6 v7:Value) (c1 c2 c3 c4 c5 c6 c7:Nat) (F:JT→Nat→Value→Value→Value→Value→Value→Value→Value→World→XS→Prop):Prop:=
 KL X w [v1,v2,v3,v4,v5,v6,v7] [c1,c2,c3,c4,c5,c6,c7] fun J n e w X=>F J n (e c1) (e c2) (e c3) (e c4) (e c5) (e c6) (e c7) w X
def FH (J:JT) (n:Nat) (w:World) (X:XS):Prop:=zC J n [] w X
def gV (J:JT) (n:Nat) (a:Value) (w:World) (X:XS):Prop:=zC J n [a] w X
def jb (J:JT) (n:Nat) (a b:Value) (w:World) (X:XS):Prop:=zC J n [a,b] w X
def vU (J:JT) (n:Nat) (a b c:Value) (w:World) (X:XS):Prop:=zC J n [a,b,c] w X
def FI (J:JT) (n:Nat) (a b c d:Value) (w:World) (X:XS):Prop:=zC J n [a,b,c,d] w X
def FJ (J:JT) (n:Nat) (a b c d f:Value) (w:World) (X:XS):Prop:=zC J n [a,b,c,d,f] w X
def FK (J:JT) (n:Nat) (a b c d f g:Value) (w:World) (X:XS):Prop:=zC J n [a,b,c,d,f,g] w X
def FM (J:JT) (n:Nat) (a b c d f g h:Value) (w:World) (X:XS):Prop:=zC J n [a,b,c,d,f,g,h] w X
def J1 (I:Nat→Value→World→XS→Prop):JT:=fun n vs w X=>match vs with
 |[a]=>I n a w X
 |_=>False
def J2 (I:Nat→Value→Value→World→XS→Prop):JT:=fun n vs w X=>match vs with
 |[a,b]=>I n a b w X
 |_=>False
def J3 (I:Nat→Value→Value→Value→World→XS→Prop):JT:=fun n vs w X=>match vs with
 |[a,b,c]=>I n a b c w X
 |_=>False
theorem eQ {v1 c1 F} (I:Nat→Value→World→XS→Prop) (n:Nat) (h0:I n v1 w X)
  (h: ∀n a w' X',I n a w' X'→F (J1 I) n a w' X'):gU X w v1 c1 F:=⟨J1 I,⟨n,h0⟩,fun n e w' X' _ hj=>h n (e c1) w' X' hj⟩
theorem fS {v1 v2 c1 c2 F} (I:Nat→Value→Value→World→XS→Prop) (n:Nat) (h0:I n v1 v2 w X)
  (h: ∀n a b w' X',I n a b w' X'→F (J2 I) n a b w' X'):ja X w v1 v2 c1 c2 F:=⟨J2 I,⟨n,h0⟩,fun n e w' X' _ hj=>h n (e c1) (e c2) w' X' hj⟩
theorem Df {v1 v2 v3 c1 c2 c3 F} (I:Nat→Value→Value→Value→World→XS→Prop) (n:Nat) (h0:I n v1 v2 v3 w X)
  (h: ∀n a b c w' X',I n a b c w' X'→F (J3 I) n a b c w' X'):vT X w v1 v2 v3 c1 c2 c3 F:=⟨J3 I,⟨n,h0⟩,fun n e w' X' _ hj=>h n (e c1) (e c2) (e c3) w' X' hj⟩
theorem eT {I n a} (k:Nat) (hk:k<n) (h:I k a w X):gV (J1 I) n a w X:=⟨k,hk,h⟩
theorem fT {I n a b} (k:Nat) (hk:k<n) (h:I k a b w X):jb (J2 I) n a b w X:=⟨k,hk,h⟩
theorem Iq {I n a b c} (k:Nat) (hk:k<n) (h:I k a b c w X):vU (J3 I) n a b c w X:=⟨k,hk,h⟩
theorem dg {α:Type} {r:α} {F:α→Prop} (h:F r):jn r F:=h
theorem iF {α:Type} {r:α} {F:α→Prop} (Q:α→Prop) (h:Q r) (k: ∀c,Q c→F c):jn r F:=k r h
theorem Yy {l:List Value} {i:Nat} {a:Value} {M:Value→Prop} (h:l[i]? =some a) (k:M a):un (cellOf (.agg l.toArray) i) M:=by
 have:cellOf (.agg l.toArray) i=a:=by simp [cellOf,aa,iG,h]
 unfold un;rw [this];exact k
theorem TR {l:List Value} {o n:Nat} {M:Value→Prop} (k:M (.agg ((l.drop o).take n).toArray)):un (bV (.agg l.toArray) o n) M:=by
 have:bV (.agg l.toArray) o n= .agg ((l.drop o).take n).toArray:=by simp [bV,aa]
 unfold un;rw [this];exact k
theorem TS {c:Array Value} {M:Value→Prop} (k:M (.agg c)):un (.agg (aa (.agg c))) M:=k
theorem Yz {v:Value} {M:Value→Prop} (k:M v):un (aK (.bool true) true v) M:=k
theorem YA {v:Value} {M:Value→Prop} (k:M v):un (aK (.bool false) false v) M:=k
theorem VH {v:Value} {M:Value→Prop} (k:M undef):un (aK (.bool true) false v) M:=k
theorem VI {v:Value} {M:Value→Prop} (k:M undef):un (aK (.bool false) true v) M:=k
theorem YB {v:Value} {q:Bool} {M:Value→Prop} (k:M undef):un (aK undef q v) M:=by
 have:aK undef q v=undef:=by cases q<;>rfl
 unfold un;rw [this];exact k
theorem RO {b:Bool} {A:Prop} (h:b=true) (k:A):aC b A:=by subst h;exact k
theorem QI {A C:Prop} (h:A):au (.bool true) A C:=⟨fun _=>h,fun h=>absurd h (by simp)⟩
theorem YC {A C:Prop} (h:C):au (.bool false) A C:=⟨fun h=>absurd h (by simp),fun _=>h⟩
theorem aax {s:Sem Next} {want:Bool} (h:N undef):aG P X w undef want s N:=by
 have e:jw undef want=false:=by cases want<;>rfl
 unfold aG;exact⟨undef,fun hf=>absurd (e.symm.trans hf) (by simp),fun _=>rfl,h⟩
theorem VJ {s:Sem Value} (h:ad P X w s N):aG P X w (.bool true) true (vS s) N:=EH h
theorem VK {s:Sem Value} (h:ad P X w s N):aG P X w (.bool false) false (vS s) N:=EH h
section
variable {t : TypeId} {k : IntKind} {a b : Int} {xo yo : Operand}
theorem RQ (hT:a<b→N (.bool true)) (hF: ¬a<b→N (.bool false)):ad P X w (binOp .lss t (.int k a) (.int k b)) N:=
 Yl (by by_cases h:a<b;(· rw [decide_eq_true h];exact hT h);(· rw [decide_eq_false h];exact hF h))
theorem W6 (hT:a≤b→N (.bool true)) (hF: ¬a≤b→N (.bool false)):ad P X w (binOp .leq t (.int k a) (.int k b)) N:=
 Ym (by by_cases h:a≤b;(· rw [decide_eq_true h];exact hT h);(· rw [decide_eq_false h];exact hF h))
theorem RR (hT:a>b→N (.bool true)) (hF: ¬a>b→N (.bool false)):ad P X w (binOp .gtr t (.int k a) (.int k b)) N:=
 Yn (by by_cases h:a>b;(· rw [decide_eq_true h];exact hT h);(· rw [decide_eq_false h];exact hF h))
theorem RS (hT:a≥b→N (.bool true)) (hF: ¬a≥b→N (.bool false)):ad P X w (binOp .geq t (.int k a) (.int k b)) N:=
 Yo (by by_cases h:a≥b;(· rw [decide_eq_true h];exact hT h);(· rw [decide_eq_false h];exact hF h))
theorem RU (hT:a=b→N (.bool true)) (hF: ¬a=b→N (.bool false)):ad P X w (aD .eql t xo yo (.int k a) (.int k b)) N:=
 Yr (by by_cases h:a=b;(· rw [decide_eq_true h];exact hT h);(· rw [decide_eq_false h];exact hF h))
theorem RV (hT: ¬a=b→N (.bool true)) (hF:a=b→N (.bool false)):ad P X w (aD .neq t xo yo (.int k a) (.int k b)) N:=
 Ys (by by_cases h:a=b;(· rw [decide_eq_false (fun hn=>hn h)];exact hF h);(· rw [decide_eq_true h];exact hT h))
theorem Tz (h:a<b) (k':N (.bool true)):ad P X w (binOp .lss t (.int k a) (.int k b)) N:=RQ (fun _=>k') (fun hn=>absurd h hn)
theorem aay (h: ¬a<b) (k':N (.bool false)):ad P X w (binOp .lss t (.int k a) (.int k b)) N:=RQ (fun hn=>absurd hn h) (fun _=>k')
theorem aaz (h: ¬a≤b) (k':N (.bool false)):ad P X w (binOp .leq t (.int k a) (.int k b)) N:=W6 (fun hn=>absurd hn h) (fun _=>k')
theorem aaA (h:a>b) (k':N (.bool true)):ad P X w (binOp .gtr t (.int k a) (.int k b)) N:=RR (fun _=>k') (fun hn=>absurd h hn)
theorem aaB (h: ¬a>b) (k':N (.bool false)):ad P X w (binOp .gtr t (.int k a) (.int k b)) N:=RR (fun hn=>absurd hn h) (fun _=>k')
theorem aaC (h:a≥b) (k':N (.bool true)):ad P X w (binOp .geq t (.int k a) (.int k b)) N:=RS (fun _=>k') (fun hn=>absurd h hn)
theorem aaD (h: ¬a≥b) (k':N (.bool false)):ad P X w (binOp .geq t (.int k a) (.int k b)) N:=RS (fun hn=>absurd hn h) (fun _=>k')
theorem aaE (h:a=b) (k':N (.bool true)):ad P X w (aD .eql t xo yo (.int k a) (.int k b)) N:=RU (fun _=>k') (fun hn=>absurd h hn)
theorem aaF (h: ¬a=b) (k':N (.bool false)):ad P X w (aD .eql t xo yo (.int k a) (.int k b)) N:=RU (fun hn=>absurd hn h) (fun _=>k')
theorem aaG (h: ¬a=b) (k':N (.bool true)):ad P X w (aD .neq t xo yo (.int k a) (.int k b)) N:=RV (fun _=>k') (fun hn=>absurd hn h)
theorem aaH (h:a=b) (k':N (.bool false)):ad P X w (aD .neq t xo yo (.int k a) (.int k b)) N:=RV (fun hn=>absurd h hn) (fun _=>k')
theorem W7 (h1: -(2^63)≤a+b) (h2:a+b<2^63) (h:N (.int .i64 (a+b))):ad P X w (binOp .add t (.int .i64 a) (.int .i64 b)) N:=
 jo (by rw [wrap_i64 h1 h2];exact h)
theorem WY (h1: -(2^63)≤a-b) (h2:a-b<2^63) (h:N (.int .i64 (a-b))):ad P X w (binOp .sub t (.int .i64 a) (.int .i64 b)) N:=
 Yp (by rw [wrap_i64 h1 h2];exact h)
end
theorem GW {a b:ByteArray} :a.toList=b.toList↔a=b:=by
 constructor
 ·intro h;rw [fD,fD] at h;obtain⟨⟨x⟩⟩:=a;obtain⟨⟨y⟩⟩:=b;simpa using h
 ·intro h;rw [h]
def xE (a b:ByteArray):Bool:=gx a.toList b.toList
section
variable {t : TypeId} {a b : ByteArray} {xo yo : Operand}
theorem aaI (hT:a=b→N (.bool true)) (hF: ¬a=b→N (.bool false)):ad P X w (aD .eql t xo yo (.string a) (.string b)) N:=
 Vn (by simp only [GW];by_cases h:a=b;(· rw [decide_eq_true h];exact hT h);(· rw [decide_eq_false h];exact hF h))
theorem aaJ (hT: ¬a=b→N (.bool true)) (hF:a=b→N (.bool false)):ad P X w (aD .neq t xo yo (.string a) (.string b)) N:=
 Vo (by simp only [ne_eq,GW];by_cases h:a=b;(· rw [decide_eq_false (fun hn=>hn h)];exact hF h);(· rw [decide_eq_true h];exact hT h))
theorem aaK (hT:xE a b=false→N (.bool true)) (hF:xE a b=true→N (.bool false)):ad P X w (binOp .geq t (.string a) (.string b)) N:=
 Vp (by unfold xE at hT hF;cases h:gx a.toList b.toList;(· exact hT h);(· exact hF h))
theorem aaL (hT:xE a b=true∨a=b→N (.bool true)) (hF:xE a b=false→ ¬a=b→N (.bool false)):ad P X w (binOp .leq t (.string a) (.string b)) N:=
 Vq (by
  unfold xE at hT hF;simp only [GW];cases h:gx a.toList b.toList
  ·by_cases h2:a=b
   ·simp only [h2,decide_true,Bool.or_true];exact hT (.inr h2)
   ·simp only [h2,decide_false,Bool.or_false];exact hF h h2
  ·simp only [Bool.true_or];exact hT (.inl h))
end
def Dy (a b:Nat):Bool:=FloatKind.f64.format.order a b==some .lt
def zH (a b:Nat):Bool:=FloatKind.f64.format.order a b==some .eq
def Ir (a b:Nat):Bool:=FloatKind.f64.format.order a b==some .gt
section
variable {t : TypeId} {a b : Nat} {xo yo : Operand}
theorem aaM (hT:Dy a b=true→N (.bool true)) (hF:Dy a b=false→N (.bool false)):ad P X w (binOp .lss t (.float .f64 a) (.float .f64 b)) N:=
 Vr (by unfold Dy at hT hF;cases h:(FloatKind.f64.format.order a b==some .lt);(· exact hF h);(· exact hT h))
theorem aaN (hT:Ir a b=true→N (.bool true)) (hF:Ir a b=false→N (.bool false)):ad P X w (binOp .gtr t (.float .f64 a) (.float .f64 b)) N:=
 Vt (by unfold Ir at hT hF;cases h:(FloatKind.f64.format.order a b==some .gt);(· exact hF h);(· exact hT h))
theorem aaO (hT:Dy a b=true∨zH a b=true→N (.bool true)) (hF:Dy a b=false→zH a b=false→N (.bool false)):ad P X w (binOp .leq t (.float .f64 a) (.float .f64 b)) N:=
 Vs (by
  unfold Dy zH at hT hF;cases h:(FloatKind.f64.format.order a b==some .lt)
  ·cases h2:(FloatKind.f64.format.order a b==some .eq)
   ·exact hF h h2
   ·exact hT (.inr h2)
  ·exact hT (.inl h))
theorem aaP (hT:Ir a b=true∨zH a b=true→N (.bool true)) (hF:Ir a b=false→zH a b=false→N (.bool false)):ad P X w (binOp .geq t (.float .f64 a) (.float .f64 b)) N:=
 Vu (by
  unfold Ir zH at hT hF;cases h:(FloatKind.f64.format.order a b==some .gt)
  ·cases h2:(FloatKind.f64.format.order a b==some .eq)
   ·exact hF h h2
   ·exact hT (.inr h2)
  ·exact hT (.inl h))
theorem aaQ (hT:zH a b=false→N (.bool true)) (hF:zH a b=true→N (.bool false)):ad P X w (aD .neq t xo yo (.float .f64 a) (.float .f64 b)) N:=
 Vv (by
  unfold zH at hT hF
  show N (.bool (!(FloatKind.f64.format.order a b==some .eq)))
  cases h:(FloatKind.f64.format.order a b==some .eq)
  ·exact hT h
  ·exact hF h)
end
theorem aaR (h:N (.bool false)):ad P X w (aQ .not (.bool true)) N:=QQ h
theorem aaS (h:N (.bool true)):ad P X w (aQ .not (.bool false)) N:=QQ h
section
variable {t : TypeId} {xo yo : Operand} {a b c a' b' c' : Int}
theorem No (h:gr P t 3=true) (hT:a=a'→b=b'→c=c'→N (.bool true)) (hF: ¬(a=a'∧b=b'∧c=c')→N (.bool false)):
  ad P X w (aD .eql t xo yo (.agg #[.int .i64 a,.int .i64 b,.int .i64 c]) (.agg #[.int .i64 a',.int .i64 b',.int .i64 c'])) N:=
 VB h (by by_cases hc:a=a'∧b=b'∧c=c';(· rw [decide_eq_true hc];exact hT hc.1 hc.2.1 hc.2.2);(· rw [decide_eq_false hc];exact hF hc))
theorem aaT (h:gr P t 3=true) (hT: ¬(a=a'∧b=b'∧c=c')→N (.bool true)) (hF:a=a'→b=b'→c=c'→N (.bool false)):
  ad P X w (aD .neq t xo yo (.agg #[.int .i64 a,.int .i64 b,.int .i64 c]) (.agg #[.int .i64 a',.int .i64 b',.int .i64 c'])) N:=
 VC h (by by_cases hc:a=a'∧b=b'∧c=c';(· rw [decide_eq_true hc];exact hF hc.1 hc.2.1 hc.2.2);(· rw [decide_eq_false hc];exact hT hc))
end
theorem abS {t:TypeId} {b o:Nat} {v:Value} {l:List Value} (h:Cells w X b o l) (hi:gT P t=some (false,1)) (hl:l[0]? =some v) (k:N v):
  ad P X w (ld1 t (ptr b o)) N:=by
 cases l with
 |nil=>cases hl
 |cons x r=>
  simp only [gq,av] at hl;subst hl;exact TM h hi k
theorem abT {t ty:TypeId} {s:ByteArray} (ht:P.underlying t=some .string) (k:N (.int .i64 s.size)):ad P X w (mm t ty (.string s)) N:=Vy ht k
theorem RW {t:TypeId} {parts:Array (Nat×Value)} {cells:Array Value} (h:P.built t parts.toList=some cells) (k:N (.agg cells)):
  ad P X w (dK t cells parts) N:=TO cells h k
theorem LR {a:Addr} (h:N (.pointer (some a))):aw P X w (az (.pointer (some a))) N:=Yv h
theorem dw {f:FuncId} {args:Array Value} {b:Bool} {N:Value→World→XS→Prop}
  (h:Pure P f args (.bool b)) (hf:enters P f=true) (hX: ∀k,X k→k<w.heap.size)
  (hT:b=true→ ∀w' X',ak X w X' w'→N (.bool true) w' X') (hF:b=false→ ∀w' X',ak X w X' w'→N (.bool false) w' X'):
  eC P R X w m f args N:=QR hf hX h (by
  cases b
  ·exact hF rfl
  ·exact hT rfl)
theorem jj {f:FuncId} {args:Array Value} {v:Value} {N:Value→World→XS→Prop}
  (h:Pure P f args v) (hf:enters P f=true) (hX: ∀k,X k→k<w.heap.size)
  (k: ∀w' X',ak X w X' w'→N v w' X'):eC P R X w m f args N:=QR hf hX h k
structure fb (F X:XS) (w:World) (X':XS) (w':World):Prop where
 os:w'.os=w.os
 tape:w'.tape=w.tape
 output:w'.output=w.output
 size:w.heap.size≤w'.heap.size
 block: ∀k,X k→ ¬F k→w'.heap[k]? =w.heap[k]?
 sub: ∀k,X k→X' k
 has: ∀k,X' k→k<w'.heap.size
theorem fb.since {F Y X':XS} {w':World} (c:fb F X w X' w') (hY: ∀k,Y k→X k∧ ¬F k):ak Y w X' w':=
 ⟨⟨c.os,c.tape,c.output,c.size,fun k hk=>c.block k (hY k hk).1 (hY k hk).2⟩,fun k hk=>c.sub k (hY k hk).1,c.has⟩
theorem ak.fF {F X0 X':XS} {w0 w':World} (h:ak X0 w0 X w) (c:fb F X w X' w') (hd: ∀k,X0 k→ ¬F k):ak X0 w0 X' w':=
 ⟨⟨c.os.trans h.kp.os,c.tape.trans h.kp.tape,c.output.trans h.kp.output,af h.kp.size c.size,
  fun k hk=>(c.block k (h.sub k hk) (hd k hk)).trans (h.kp.block k hk)⟩,fun k hk=>c.sub k (h.sub k hk),c.has⟩
theorem fb.abU {F:XS} {wa w':World} (hX: ∀k,X k→k<w.heap.size) (hk:Kp X w wa) (hf:Fr F wa w'):fb F X w (grow X wa w') w':=
 ⟨hf.os.trans hk.os,hf.tape.trans hk.tape,hf.output.trans hk.output,af hk.size hf.size,
  fun k hx hn=>(hf.block k (aA (hX k hx) hk.size) hn).trans (hk.block k hx),fun _ h=>.inl h,
  fun k h=>h.elim (fun h=>aA (hX k h) (af hk.size hf.size)) (fun h=>h.2)⟩
theorem fb.rI {X':XS} {w':World} (h:ak X w X' w') (F:XS):fb F X w X' w':=
 ⟨h.kp.os,h.kp.tape,h.kp.output,h.kp.size,fun k hk _=>h.kp.block k hk,h.sub,h.has⟩
theorem Grown.fF {X':XS} {w':World} {row:Option Nat} (g:Grown X w X' w' row):fb (fun k=>some k=row) X w X' w':=
 ⟨g.os,g.tape,g.output,g.size,fun k hk hn=>g.block k hk hn,g.sub,g.has⟩
theorem fb.trans {F X' oK:XS} {w' iH:World} (a:fb F X w X' w') (b:fb F X' w' oK iH):fb F X w oK iH:=
 ⟨b.os.trans a.os,b.tape.trans a.tape,b.output.trans a.output,af a.size b.size,
  fun k hk hn=>(b.block k (a.sub k hk) hn).trans (a.block k hk hn),fun k hk=>b.sub k (a.sub k hk),b.has⟩
theorem fb.mono {F G X':XS} {w':World} (a:fb F X w X' w') (h: ∀k,X k→F k→G k):fb G X w X' w':=
 ⟨a.os,a.tape,a.output,a.size,fun k hk hn=>a.block k hk fun hf=>hn (h k hk hf),a.sub,a.has⟩
def made (w w':World):XS:=fun g=>w.heap.size≤g∧g<w'.heap.size
def out (F:XS) (w:World):XS:=fun k=>k<w.heap.size∧ ¬F k
def Ih (F:XS) (w0:World) (Q:Value→World→Prop):Ending→World→Prop:=fun e w'=> ∃v,e= .returned v∧Fr F w0 w'∧Q v w'
def Ct (P:Program) (f:FuncId) (args:Array Value) (w:World) (X F:XS) (Q:Value→World→World→Prop):Prop:=
 ∀wa,Kp X w wa→Calls P f args wa (Ih F wa fun v w'=>Q v wa w')
theorem Ct.mono {f:FuncId} {args:Array Value} {F:XS} {Q Q':Value→World→World→Prop} (h:Ct P f args w X F Q) (k: ∀v wa w',Kp X w wa→Q v wa w'→Q' v wa w'):Ct P f args w X F Q':=
 fun wa hk=>(h wa hk).mono fun _ _ ⟨v,he,hf,hq⟩=>⟨v,he,hf,k v wa _ hk hq⟩
theorem dW {f:FuncId} {args:Array Value} {N:Value→World→XS→Prop} {Q:Value→World→World→Prop}
  (h:Ct P f args w X nX Q) (hf:enters P f=true) (hX: ∀k,X k→k<w.heap.size)
  (k: ∀v wa w' X',Q v wa w'→w.heap.size≤wa.heap.size→(∀k,made wa w' k→X' k)→ak X w X' w'→N v w' X'):eC P R X w m f args N:=
 NO (Q:=Q) hf hX h fun v wa w' X' hk _ hn hq hs=>k v wa w' X' hq hk.size (fun g hg=>hn g hg.1 hg.2) hs
theorem Rp {f:FuncId} {args:Array Value} {N:Value→World→XS→Prop} {F:XS} {Q:Value→World→World→Prop}
  (h:Ct P f args w X F Q) (hf:enters P f=true) (hX: ∀k,X k→k<w.heap.size) (hF: ∀k,F k→X k)
  (k: ∀v wa w' X',Q v wa w'→w.heap.size≤wa.heap.size→(∀k,made wa w' k→X' k)→Kp X w wa→fb F X w X' w'→N v w' X'):eC P R X w true f args N:=by
 intro wa hk;unfold iy;rw [pI hf args wa];refine⟨rfl,(h wa hk).mono ?_⟩;rintro e w' ⟨v,rfl,W2,hq⟩;exact⟨W2.mono hF,k v wa w' _ hq hk.size (fun g hg=>.inr hg) hk (fb.abU hX hk W2)⟩
theorem aj {w0:World} {v:Value} {Q:Value→World→Prop} (hs:ak (aS w0) w0 X w) (h: ∀wa,Kp X w wa→Q v wa):fin (Ih nX w0 Q) X w v:=
 fun _ hk=>⟨v,rfl,hs.ext hk,h _ hk⟩
theorem QT {w0:World} {v:Value} {F:XS} {Q:Value→World→Prop} (hs:ak (out F w0) w0 X w) (h: ∀wa,Kp X w wa→Q v wa):fin (Ih F w0 Q) X w v:=
 fun _ hk=>⟨v,rfl,⟨hk.os.trans hs.kp.os,hk.tape.trans hs.kp.tape,hk.output.trans hs.kp.output,af hs.kp.size hk.size,
  fun k hl hn=>(hk.block k (hs.sub k ⟨hl,hn⟩)).trans (hs.kp.block k ⟨hl,hn⟩)⟩,h _ hk⟩
theorem ak.out (F:XS) (w:World):ak (out F w) w (aS w) w:=⟨Kp.refl _ _,fun _ h=>h.1,fun _ h=>h⟩
theorem Own.up {w' wa:World} {X':XS} {lo e k:Nat} {v:Value} {rows:List (List Value)} (h:Own w' (made wa w') wa.heap.size e k v rows) (gF: ∀k,made wa w' k→X' k) (hl:lo≤wa.heap.size):
  Own w' X' lo e k v rows:=(h.mono gF).low hl
theorem Own.fF {F X':XS} {w':World} {lo e k:Nat} {v:Value} {rows:List (List Value)} (h:Own w X lo e k v rows) (c:fb F X w X' w') (hd: ∀g,v.ownBlock=some g→ ¬F g):Own w' X' lo e k v rows:=by
 obtain⟨h1,h2,h3⟩:=h;refine⟨h1,⟨h2.1,?_⟩,fun g hg=>c.sub g (h3 g hg)⟩;rcases h2.2 with h|⟨g,cap,cur,rfl,hb,hg,hr⟩
 ·exact .inl h
 ·exact .inr ⟨g,cap,cur,rfl,hb,by rw [c.block g (h3 g rfl) (hd g rfl)];exact hg,hr⟩
theorem Sl.sub {k:Nat} {v:Value} {rows:List (List Value)} {Y:XS} (h:Sl w X k v rows) (hs: ∀k,X k→k<w.heap.size→Y k):Sl w Y k v rows:=by
 obtain⟨h1,h2,base,cap,hv,hc,hr⟩:=h;exact⟨h1,h2,base,cap,hv,fun dO=>let⟨b,o,hb,jZ⟩:=hc dO;⟨b,o,hb,hs _ jZ.1 jZ.lt,jZ.2⟩,hr⟩
theorem Sl.len {k:Nat} {v:Value} {rows:List (List Value)} (h:Sl w X k v rows):rows.length≤2^63-1:=h.2.1
theorem Sl.gH {α:Type} {enc:α→List Value} {k:Nat} {v:Value} {xs:List α} (h:Sl w X k v (xs.map enc)):xs.length≤2^63-1:=by have:=h.2.1;simpa using this
theorem Cells.sub {b o:Nat} {l:List Value} {Y:XS} (h:Cells w X b o l) (hs: ∀k,X k→k<w.heap.size→Y k):Cells w Y b o l:=⟨hs _ h.1 h.lt,h.2⟩
theorem Cells.aS {b o:Nat} {l:List Value} (h:Cells w X b o l):Cells w (aS w) b o l:=⟨h.lt,h.2⟩
variable {P : Program} {R : Ending → World → Prop} {X Y Z : XS} {w w' iH : World} {m : Bool} {N : Value → Prop} {α : Type}
def Mv (X:XS) (w:World) (Y:XS) (w':World):Prop:= ∀k,X k→k<w.heap.size→Y k∧w'.heap[k]? =w.heap[k]?
theorem Mv.trans (a:Mv X w Y w') (b:Mv Y w' Z iH):Mv X w Z iH:=fun k hk hl=>by
 obtain⟨h1,h2⟩:=a k hk hl;have rT:k<w'.heap.size:=by
  have:w'.heap[k]? =some w.heap[k]:=by rw [h2];exact Array.getElem?_eq_getElem hl
  exact(Array.getElem?_eq_some_iff.1 this).1
 obtain⟨h3,h4⟩:=b k h1 rT;exact⟨h3,h4.trans h2⟩
theorem ak.mv (h:ak X w Y w'):Mv X w Y w':=fun k hk _=>⟨h.sub k hk,h.kp.block k hk⟩
theorem _root_.Go.aX.Kp.mv (h:Kp X w w'):Mv X w X w':=fun k hk _=>⟨hk,h.block k hk⟩
theorem Mv.aS:Mv X w (aS w) w:=fun _ _ hl=>⟨hl,rfl⟩
theorem _root_.Go.aX.Kp.cO (h:Kp X w w'):Mv X w (aS w') w':=h.mv.trans Mv.aS
theorem Mv.out {F:XS} (h: ∀k,X k→ ¬F k):Mv X w (aX.out F w) w:=fun k hk hl=>⟨⟨hl,h k hk⟩,rfl⟩
theorem Mv.sub (h: ∀k,X k→Y k):Mv X w Y w:=fun k hk _=>⟨h k hk,rfl⟩
theorem Ext.mv (h:Ext w w'):Mv (aX.aS w) w (aX.aS w') w':=fun _ _ hl=>⟨aA hl h.size,h.block hl⟩
theorem fb.mv {F A:XS} (c:fb F X w Y w') (h: ∀k,A k→X k∧ ¬F k):Mv A w Y w':=fun k hk _=>⟨c.sub k (h k hk).1,c.block k (h k hk).1 (h k hk).2⟩
theorem Cells.mv {b o:Nat} {l:List Value} (h:Cells w X b o l) (v:Mv X w Y w'):Cells w' Y b o l:=by
 have hl:=h.lt;obtain⟨hx,cs,t,fr,hb,hc⟩:=h;obtain⟨h1,h2⟩:=v b hx hl;exact⟨h1,cs,t,fr,by rw [h2];exact hb,hc⟩
theorem Sl.mv {k:Nat} {v:Value} {rows:List (List Value)} (h:Sl w X k v rows) (m:Mv X w Y w'):Sl w' Y k v rows:=by
 obtain⟨h1,h2,base,cap,hv,hc,hr⟩:=h;exact⟨h1,h2,base,cap,hv,fun dO=>let⟨b,o,hb,jZ⟩:=hc dO;⟨b,o,hb,jZ.mv m⟩,hr⟩
theorem Sl.form {k:Nat} {v:Value} {rows:List (List Value)} (h:Sl w X k v rows): ∃b n c,v= .slice b n c:=let⟨_,_,b,c,hv,_⟩:=h;⟨b,_,c,hv⟩
theorem bq.mv {b:Nat} {cs:List Value} {ty:TypeId} (h:bq w X b cs ty) (m:Mv X w Y w'):bq w' Y b cs ty:=by
 obtain⟨h1,h2⟩:=m b h.1 (Array.getElem?_eq_some_iff.1 h.2).1;exact⟨h1,by rw [h2];exact h.2⟩
theorem ka.mv {κ:Type} {b:Nat} {kv:κ→Value} {es:List (iI κ)} {c:Nat} (h:ka w X b kv es c) (m:Mv X w Y w'):ka w' Y b kv es c:=by
 obtain⟨h1,h2⟩:=m b h.1 (Array.getElem?_eq_some_iff.1 h.2.1).1;exact⟨h1,by rw [h2];exact h.2.1,h.2.2⟩
theorem Own.mv {lo e k:Nat} {v:Value} {rows:List (List Value)} (h:Own w X lo e k v rows) (m:Mv X w Y w'):Own w' Y lo e k v rows:=by
 obtain⟨h1,h2,h3⟩:=h;refine⟨h1,⟨h2.1,?_⟩,fun g hg=>(m g (h3 g hg) (h2.lt g hg).2).1⟩;rcases h2.2 with h|⟨g,cap,cur,rfl,hb,hg,hr⟩
 ·exact .inl h
 ·exact .inr ⟨g,cap,cur,rfl,hb,by rw [(m g (h3 g rfl) (Array.getElem?_eq_some_iff.1 hg).1).2];exact hg,hr⟩
def eE (w:World) (X:XS) (k:Nat) (v:Value) (rd:World→XS→List Value→α→Prop) (xs:List α):Prop:=
 ∃rows,Sl w X k v rows∧rows.length=xs.length∧ ∀(i:Nat) l x,rows[i]? =some l→xs[i]? =some x→rd w X l x
def Ay (rd:World→XS→List Value→α→Prop):Prop:= ∀{X Y:XS} {w w':World} {l:List Value} {x:α},rd w X l x→Mv X w Y w'→rd w' Y l x
theorem eE.mv {k:Nat} {v:Value} {rd:World→XS→List Value→α→Prop} {xs:List α} (h:eE w X k v rd xs) (hm:Ay rd) (m:Mv X w Y w'):eE w' Y k v rd xs:=by
 obtain⟨rows,h1,h2,h3⟩:=h;exact⟨rows,h1.mv m,h2,fun i l x hl hx=>hm (h3 i l x hl hx) m⟩
theorem eE.nil {rd:World→XS→List Value→α→Prop} (w:World) (X:XS) (k:Nat):eE w X k (.slice none 0 0) rd []:=⟨[],Sl.nil w X k,rfl,by simp⟩
theorem eE.one {k:Nat} {v:Value} {rd:World→XS→List Value→α→Prop} {xs:List α} (h:eE w X k v rd xs):one v=true:=let⟨_,h1,_⟩:=h;h1.one
theorem eE.len {k:Nat} {v:Value} {rd:World→XS→List Value→α→Prop} {xs:List α} (h:eE w X k v rd xs):xs.length≤2^63-1:=by
 obtain⟨_,h1,h2,_⟩:=h;rw [←h2];exact h1.2.1
theorem Mv.refl (X:XS) (w:World):Mv X w X w:=fun _ hk _=>⟨hk,rfl⟩
theorem mv0:Mv X w X w:=Mv.refl _ _
theorem mv1 (h:ak X w Y w'):Mv X w Y w':=h.mv
theorem nq1 {l:List Value} :l.toArray.toList=l:=rfl
theorem nq2 {i:Nat} {a:Value} {l:List Value} :(a::l).take (i+1)=a::l.take i:=rfl
theorem nq3 {i:Nat} {a:Value} {l:List Value} :(a::l).drop (i+1)=l.drop i:=rfl
theorem nq4 {l:List Value} :l.take 0=[]:=rfl
theorem nq5 {l:List Value} :l.drop 0=l:=rfl
theorem nq6 {i:Nat} :([]:List Value).take i=[]:=List.take_nil
theorem nq7 {a:Value} {l:List Value} :(a::l).length=l.length+1:=rfl
theorem nq8:([]:List Value).length=0:=rfl
theorem nq9 {a:Value} {l m:List Value} :a::l++m=a::(l++m):=rfl
theorem nq0 {l:List Value} :[]++l=l:=rfl
theorem mv2 (h:ak X w Y w') (h':ak Y w' Z iH):Mv X w Z iH:=(h.trans h').mv
theorem Cells.RX {b o fo:Nat} {v:Value} {l:List Value} (h:Cells w X b o l) (hl:l[fo]? =some v):Cells w X b (o+fo) [v]:=by
 have hp:=h.part fo 1;have:(l.drop fo).take 1=[v]:=by
  obtain⟨dA,rfl⟩:=List.getElem?_eq_some_iff.1 hl;rw [gQ dA,List.take_succ_cons,List.take_zero]
 rw [this] at hp;exact hp
section
variable {w0 : World} {X0 : XS}
theorem abV {S f fo sz b o:Nat} {l l':List Value} (h:Cells w0 X0 b o l) (hf:fieldInfo P S f=some (fo,sz)) (hz:(sz !=0)=true) (hl:(l.drop fo).take sz=l')
  (k: ∀o',o'=o+fo→Cells w0 X0 b o' l'→N (ptr b o')):ad P X w (aJ S f fo sz (ptr b o)) N:=
 Gb hf (by simpa using hz) (k _ rfl (hl▸h.part fo sz))
theorem Is {S f fo b o:Nat} {v:Value} {l:List Value} (h:Cells w0 X0 b o l) (hf:fieldInfo P S f=some (fo,1)) (hl:l[fo]? =some v)
  (k: ∀o',o'=o+fo→Cells w0 X0 b o' [v]→N (ptr b o')):ad P X w (aJ S f fo 1 (ptr b o)) N:=
 Gb hf zQ (k _ rfl (h.RX hl))
theorem W8 {t:TypeId} {b o:Nat} {v:Value} {l:List Value} (h:Cells w0 X0 b o l) (m:Mv X0 w0 X w) (hi:gT P t=some (false,1)) (hl:l[0]? =some v) (k:N v):
  ad P X w (ld1 t (ptr b o)) N:=abS (h.mv m) hi hl k
theorem W9 {t:TypeId} {b o n:Nat} {l:List Value} (h:Cells w0 X0 b o l) (m:Mv X0 w0 X w) (hi:gT P t=some (true,n)) (hn:l.length=n) (k:N (.agg l.toArray)):
  ad P X w (ff t n (ptr b o)) N:=TN (h.mv m) hi hn k
theorem abW {enc:α→List Value} {t ty:TypeId} {k:Nat} {v:Value} {xs:List α} (h:Sl w0 X0 k v (xs.map enc))
  (ht:P.underlying t=some (.slice (P.elem t))) (n:N (.int .i64 xs.length)):ad P X w (cY t ty v) N:=by
 obtain⟨_,_,base,cap,rfl,_⟩:=h;exact cg (fun wa=>run_len_slice wa t ty base _ cap ht) (by rw [List.length_map];exact n)
theorem WX {t ty:TypeId} {k:Nat} {v:Value} {rd:World→XS→List Value→α→Prop} {xs:List α} (h:eE w0 X0 k v rd xs)
  (ht:P.underlying t=some (.slice (P.elem t))) (n:N (.int .i64 xs.length)):ad P X w (cY t ty v) N:=by
 obtain⟨rows,⟨_,_,base,cap,rfl,_⟩,h2,_⟩:=h;exact cg (fun wa=>run_len_slice wa t ty base _ cap ht) (by rw [h2];exact n)
theorem It {t:TypeId} {k:Nat} {v:Value} {rows:List (List Value)} {i:Nat} {z:Int} {r:List Value} (h:Sl w0 X0 k v rows) (hr:rows[i]? =some r) (hz:z=i)
  (ht:P.underlying t=some (.slice (P.elem t))) (hs:(P.info? (P.elem t)).map (·.size)=some k)
  (n: ∀b o,Cells w0 X0 b o r→N (ptr b o)):ad P X w (Instr.indexAt t v (.int .i64 z)) N:=by
 obtain⟨h1,_,base,cap,rfl,hc,_⟩:=h;have hi:i<rows.length:=(List.getElem?_eq_some_iff.1 hr).1;obtain⟨b,o,rfl,jZ⟩:=hc (by intro e;subst e;simp at hi);have hp:=jZ.part (i*k) k;rw [Dv h1 hr] at hp;refine cg (fun wa=>?_) (n b (o+i*k) hp);subst hz;rw [run_indexAt_slice (h:=ht),if_pos zQ];cases hq:P.info? (P.elem t)with
 |none=>simp [hq] at hs
 |some inf=>
  have:inf.size=k:=by simpa [hq] using hs
  simp [sizeOf,typeInfo,hq,this,uv]
theorem Xa {enc:α→List Value} {t:TypeId} {k:Nat} {v:Value} {xs:List α} {i:Nat} {z:Int} {x:α} (h:Sl w0 X0 k v (xs.map enc)) (hr:xs[i]? =some x)
  (hz:z=i) (ht:P.underlying t=some (.slice (P.elem t))) (hs:(P.info? (P.elem t)).map (·.size)=some k)
  (n: ∀b o,Cells w0 X0 b o (enc x)→N (ptr b o)):ad P X w (dy t k v (.int .i64 z)) N:=
 It h (i:=i) (by rw [dP,hr];rfl) hz ht hs n
theorem LP {t:TypeId} {k:Nat} {v:Value} {rd:World→XS→List Value→α→Prop} {xs:List α} {i:Nat} {z:Int} {x:α} (h:eE w0 X0 k v rd xs) (hr:xs[i]? =some x)
  (hz:z=i) (ht:P.underlying t=some (.slice (P.elem t))) (hs:(P.info? (P.elem t)).map (·.size)=some k)
  (n: ∀b o l,Cells w0 X0 b o l→rd w0 X0 l x→N (ptr b o)):ad P X w (dy t k v (.int .i64 z)) N:=by
 obtain⟨rows,h1,h2,h3⟩:=h;have hi:i<rows.length:=by rw [h2];exact(List.getElem?_eq_some_iff.1 hr).1
 have hl:rows[i]? =some rows[i]:=bk hi;exact It h1 hl hz ht hs fun b o hc=>n b o _ hc (h3 i _ _ hl hr)
theorem aaU {t:TypeId} {xo yo:Operand} {k:Nat} {v:Value} {rows:List (List Value)} (h:Sl w0 X0 k v rows) (ht:P.underlying t=some (.slice (P.elem t)))
  (hT:v= .slice none 0 0→rows=[]→N (.bool true)) (hF:N (.bool false)):ad P X w (aD .eql t xo yo v (.slice none 0 0)) N:=by
 rcases h.src with⟨rfl,hr⟩|⟨a,cap,rfl,_⟩
 ·exact NP ht (hT rfl hr)
 ·exact NP ht hF
end
theorem uH {xs:List α} {i:Nat} (h:i<xs.length): ∃x,xs[i]? =some x∧xs.drop i=x::xs.drop (i+1):=
 ⟨xs[i],bk h,gQ h⟩
theorem eG (xs:List α) (i:Nat):(i<xs.length∧ ∃x,xs[i]? =some x∧xs.drop i=x::xs.drop (i+1))∨(xs.length≤i∧xs.drop i=[]):=by
 rcases Nat.lt_or_ge i xs.length with h|h
 ·exact .inl ⟨h,uH h⟩
 ·exact .inr ⟨h,dS h⟩
theorem abX {l l':List Value} {o n:Nat} {M:Value→Prop} (hl:(l.drop o).take n=l') (k:M (.agg l'.toArray)):un (bV (.agg l.toArray) o n) M:=
 TR (hl▸k)
theorem abY {l l' cs:List Value} {o:Nat} {M:Value→Prop} (hl:cP l o cs=l') (k:M (.agg l'.toArray)):
  un (ai (List.toArray (cP l o cs))) M:=by subst hl;exact k
theorem Mx {v:Value} {l:List Value} (h:one v=true) (k:l.all one=true):(v::l).all one=true:=by simp [h,k]
theorem Pw:List.all ([]:List Value) one=true:=rfl
theorem aaV {l:List Value} {A:Prop} (h:l.all one=true) (k:A):aC (List.all (Array.toList (aa (.agg l.toArray))) one) A:=RO h k
theorem aaW {l:List Value} {A:Prop} (h:l.all one=true) (k:A):aC (List.all l one) A:=RO h k
theorem abZ {l:List Value} {i:Nat} {v:Value} (hi:l[i]? =some v) (h:N v):ad P X w (aB (.tuple l.toArray) i) N:=PO (by simpa using hi) h
theorem ew {f:FuncId} {args:Array Value} {b:Bool} {N:Value→World→XS→Prop}
  (h:Ct P f args w X nX fun v _ _=>v= .bool b) (hf:enters P f=true) (hX: ∀k,X k→k<w.heap.size)
  (hT:b=true→ ∀w' X',ak X w X' w'→N (.bool true) w' X') (hF:b=false→ ∀w' X',ak X w X' w'→N (.bool false) w' X'):eC P R X w m f args N:=by
 refine dW h hf hX fun v wa w' X' hv _ _ hs=>?_;subst hv;cases b
 ·exact hF rfl w' X' hs
 ·exact hT rfl w' X' hs
theorem dZ {f:FuncId} {args:Array Value} {u:Value} {N:Value→World→XS→Prop}
  (h:Ct P f args w X nX fun v _ _=>v=u) (hf:enters P f=true) (hX: ∀k,X k→k<w.heap.size)
  (k: ∀w' X',ak X w X' w'→N u w' X'):eC P R X w m f args N:=by
 refine dW h hf hX fun v wa w' X' hv _ _ hs=>?_;subst hv;exact k w' X' hs
theorem gY {f:FuncId} {args:Array Value} {N:Value→World→XS→Prop}
  (h:Ct P f args w X nX fun v _ _=> ∃n:Int,v= .int .i64 n) (hf:enters P f=true) (hX: ∀k,X k→k<w.heap.size)
  (k: ∀(n:Int) w' X',ak X w X' w'→N (.int .i64 n) w' X'):eC P R X w m f args N:=by
 refine dW h hf hX fun v wa w' X' hv _ _ hs=>?_;obtain⟨n,rfl⟩:=hv;exact k n w' X' hs
theorem ab0 {t ty:TypeId} {a b:Int} (h:N (.int .i64 (min a b))):ad P X w (gZ #[t,t] ty #[.int .i64 a,.int .i64 b]) N:=
 cg (fun wa=>by
  simp only [gZ,List.foldlM];by_cases hc:b<a
  ·have:min a b=b:=by omega
   simp [xJ,hc,this]
  ·have:min a b=a:=by omega
   simp [xJ,hc,this]) h
theorem RY {src dst:TypeId} {k q:IntKind} {n:Int} (hs:(P.underlying src).isSome=true) (hd:P.underlying dst=some (.int k))
  (h:N (.int k (k.wrap n))):ad P X w (nv k src dst (.int q n)) N:=cg (fun wa=>by
   have e:P.intKind dst=k:=by simp [Program.intKind,hd]
   have:=run_convert_int (P:=P) wa src dst q n hs (by rw [e];exact hd);rw [e] at this;exact this) h
theorem ab1 {src dst:TypeId} {q:IntKind} {n:Int} (hs:(P.underlying src).isSome=true) (hd:P.underlying dst=some (.float .f64))
  (h:N (.float .f64 (floatOfInt .f64 n))):ad P X w (Bw src dst (.int q n)) N:=cg (fun wa=>run_convert_int_float wa src dst q .f64 n hs hd) h
theorem ab2 {t e:TypeId} {n:Nat} {l:List Value} {z:Int} {i:Nat} {v:Value} (ht:P.underlying t=some (.array n e)) (he:gT P e=some (false,1)) (hz:z=i) (hn:i<n) (hl:l[i]? =some v)
  (k:N v):ad P X w (zn t n e (.agg l.toArray) (.int .i64 z)) N:=by
 subst hz;unfold gT at he;split at he
 ·rename_i d q hu xf;simp only [av,da] at he;refine cg (v:=v) (fun wa=>?_) k;have ux:(isAgg e).run P wa= .ok false wa:=by cases d<;>simp_all [isAgg,run_underlying hu]
  simp [zn,sV,asIntOf,run_underlying ht,hn,sizeOf,typeInfo,xf,he.2,part,ux,hl]
 ·cases he
theorem ab3 {op:BinOp} {t:TypeId} {x y r:Nat} (h:floatBits op .f64 x y=some r) (k:N (.float .f64 r)):ad P X w (binOp op t (.float .f64 x) (.float .f64 y)) N:=
 cg (fun wa=>run_float_arith wa op t .f64 x y r h) k
theorem KO (s:ByteArray):s.size=s.data.toList.length:=by rw [dv];rfl
theorem ab4 {t:TypeId} {s:ByteArray} {z:Int} {i:Nat} {b:UInt8} (hb:s.data.toList[i]? =some b) (hz:z=i) (ht:P.underlying t=some .string) (k:N (.int .u8 b.toNat)):
  ad P X w (sV t (.string s) (.int .i64 z)) N:=by
 subst hz;have hi:i<s.data.toList.length:=(List.getElem?_eq_some_iff.1 hb).1;have xf:i<s.size:=by rw [KO];exact hi
 refine cg (v:=.int .u8 b.toNat) (fun wa=>?_) k;rw [run_index_string wa t s .i64 i ht,dif_pos zQ];have:s[i]=b:=by
  have h2:s.data.toList[i]=b:=(List.getElem?_eq_some_iff.1 hb).2;rw [←h2];rfl
 simp [this]
theorem NU (f:Ieee.Format) (s:Bool) (m:Nat) (p:Int):(f.read (f.nearest s m p)).isNaN=false:=by
 have hle: ∃r,f.nearest s m p=f.word s r∧r≤f.infRung:=by
  unfold Ieee.Format.nearest;split
  ·exact⟨0,rfl,Nat.zero_le _⟩
  ·exact⟨_,rfl,Nat.min_le_right _ _⟩
 obtain⟨r,hr,hle⟩:=hle;have dA:=f.infRung_lt;have hm:f.word s r % f.signWeight=r:=by
  unfold Ieee.Format.word;split
  ·rw [Nat.add_mod_left,sT zQ]
  ·rw [sT zQ]
 rw [hr];unfold Ieee.Format.read;simp only [hm];split
 ·rfl
 ·split
  ·rfl
  ·split
   ·rfl
   ·omega
def chain (p:α→Bool) (r:α→α→Bool):Option α→List α→Bool
 |_,[]=>true
 |none,x::l=>p x&&chain p r (some x) l
 |some y,x::l=>p x&&r y x&&chain p r (some x) l
def lN (xs:List α) (i:Nat):Option α:=if i=0 then none else xs[i-1]?
theorem kG {xs:List α} {i:Nat} {x:α} (h:xs[i]? =some x):lN xs (i+1)=some x:=by simp [lN,h]
theorem EJ {xs:List α} {i:Nat} (h:i<xs.length):(i=0∧lN xs i=none)∨(0<i∧ ∃y,xs[i-1]? =some y∧lN xs i=some y):=by
 by_cases h0:i=0
 ·exact .inl ⟨h0,by simp [lN,h0]⟩
 ·have:xs[i-1]? =some xs[i-1]:=bk zQ;exact .inr ⟨by omega,_,this,by simp [lN,h0,this]⟩
variable {P : Program} {R : Ending → World → Prop} {X : XS} {w : World} {m : Bool}
theorem foldl_set (l:List Value): ∀(n:Nat) (cs:Array Value),n+l.length≤cs.size→
  ((l.zipIdx n).foldl (fun (cs:Array Value) (p:Value×Nat)=>cs.setIfInBounds p.2 p.1) cs).toList=cs.toList.take n++l++cs.toList.drop (n+l.length):=by
 induction l with
 |nil=>intro n cs h;simp
 |cons x r ih=>
  intro n cs h;simp only [bO] at h;simp only [List.zipIdx_cons,List.foldl_cons];rw [ih (n+1) _ (by simp;omega)];have hn:n<cs.toList.length:=by simp;omega
  simp only [Array.toList_setIfInBounds,bO];rw [List.take_set,List.drop_set_of_lt zQ];have:(cs.toList.take (n+1)).set n x=cs.toList.take n++[x]:=by
   rw [List.take_add_one,bk hn];simp only [Option.toList_some];rw [List.set_append_right _ _ (by simp;omega)];have hm:(cs.toList.take n).length=n:=by rw [List.length_take];omega
   rw [hm,Nat.sub_self,List.set_cons_zero]
  rw [this];simp only [List.append_assoc,List.cons_append,dG];rw [show n+1+r.length=n+(r.length+1)by omega]
theorem xP {k:Nat} {cs:Array Value} {x:Value} (hx:x.cells.size=k) (hc:cs.size=k):
  kK (fun i=>some (i*k,k)) cs [(0,x)]=some x.cells:=by
 unfold kK;simp only [Nat.zero_mul,eh,hx,ne_eq,not_true_eq_false,decide_false,hc,Nat.lt_irrefl,gt_iff_lt,Bool.or_self,aU,if_false];unfold kK;simp only [av];apply Array.ext';have:=foldl_set x.cells.toList 0 cs (by simp;omega);rw [←Array.toList_zipIdx,Array.foldl_toList] at this;simp only [eh,List.take_zero,dG,dv] at this;rw [dS (by simp;omega),fY] at this;exact this
def fV (v:Value):XS:=fun g=>v.ownBlock=some g
def lO (P:Program) (t e k bytes:Nat):Bool:=match P.underlying t,P.info? e with
 |some (.slice e'),some i=>e'==e&&i.size==k&&i.bytes==bytes&&(match i.zero with|some z=>z.cells.size==k|none=>false)&&decide (0<k)&&decide (k≤2^20)
 |_,_=>false
theorem ku {t e k bytes:Nat} (h:lO P t e k bytes=true):P.underlying t=some (.slice e)∧0<k∧k≤2^20∧
  ∃z:Value,(P.info? e).bind (fun i=>i.zero.map fun z=>(i.size,i.bytes,z))=some (k,bytes,z)∧(P.info? e).bind (fun i=>i.zero.map fun z=>(i.size,z))=some (k,z)∧z.cells.size=k:=by
 unfold lO at h;split at h
 ·rename_i e' i hu hi;simp only [aO,beq_iff_eq,decide_eq_true_eq] at h;obtain⟨⟨⟨⟨⟨rfl,h2⟩,h3⟩,h4⟩,h5⟩,h6⟩:=h;cases hz:i.zero with
  |none=>simp [hz] at h4
  |some z=>
   simp only [hz,beq_iff_eq] at h4;exact⟨hu,h5,h6,z,by simp [hi,hz,h2,h3],by simp [hi,hz,h2],h4⟩
 ·cases h
section
variable {w0 : World} {X0 : XS} {t ty e k bytes : Nat} {v x s : Value} {rows dY : List (List Value)} {row : List Value} {N : Value → World → XS → Prop}
theorem TT (own:Own w X w0.heap.size e k v rows) (hs:ak X0 w0 X w) (h0: ∀k,X0 k→k<w0.heap.size) (he:lO P t e k bytes=true) (hx:x.cells.toList=row) (hk:(row.length==k)=true)
  (h1:row.all one=true) (hb:(rows.length+1)*bytes≤140737488355328) (hl:rows.length+1≤2^63-1)
  (n: ∀v' w' X',ak X0 w0 X' w'→Own w' X' w0.heap.size e k v' (rows++[row])→fb (fV v) X w X' w'→(v'.ownBlock=v.ownBlock∨ ∃g,v'.ownBlock=some g∧w.heap.size≤g)→N v' w' X'):
  eV P R X w m (fR t e k 1 #[(0,x)]) fun s w1 X1=>eV P R X1 w1 true (gf t e k bytes ty v s) N:=by
 obtain⟨hu,js,xG,z,hi,hz,sY⟩:=ku he;have ae:row.length=k:=by simpa using hk
 have qj:x.cells.size=k:=by rw [←ae,←hx,dv]
 refine uE (rows:=[row]) x.cells z hs.has hu hz zQ zQ ?_ (by simpa using ae) rfl (by simpa using hx) fun s w1 X1 ax Iu=>?_
 ·simp only [Nat.one_mul];exact xP qj (by simp)
 ·have eo:w0.heap.size≤w1.heap.size:=af hs.kp.size ax.kp.size;refine yr (dY:=[row]) z hu hi sY js ax.has eo (own.since ax) Iu.sl (by simpa using h1) (by simpa using hb) (by simpa using hl) fun v2 w2 X2 hg ho fe=>?_;have hd: ∀g,v.ownBlock=some g→w0.heap.size≤g:=fun g hg=>(own.ge hg).1;refine n v2 w2 X2 ((hs.trans ax).grown hg fun g CU he=>?_) ho ?_ ?_
  ·have:=hd g he.symm;have:=h0 g CU;omega
  ·exact(fb.rI ax (fV v)).trans (hg.fF.mono fun k _ hk=>hk.symm)
  ·rcases fe with h|⟨g,h,ec⟩
   ·exact .inl h
   ·exact .inr ⟨g,h,af ax.kp.size ec⟩
theorem Qw {l:List Value} (own:Own w X w0.heap.size e k v rows) (hs:ak X0 w0 X w) (h0: ∀k,X0 k→k<w0.heap.size) (he:lO P t e k bytes=true) (hk:(l.length==k)=true)
  (h1:l.all one=true) (hb:(rows.length+1)*bytes≤140737488355328) (hl:rows.length+1≤2^63-1)
  (n: ∀v' w' X',ak X0 w0 X' w'→Own w' X' w0.heap.size e k v' (rows++[l])→fb (fV v) X w X' w'→(v'.ownBlock=v.ownBlock∨ ∃g,v'.ownBlock=some g∧w.heap.size≤g)→N v' w' X'):
  eV P R X w m (fR t e k 1 #[(0,.agg l.toArray)]) fun s w1 X1=>eV P R X1 w1 true (gf t e k bytes ty v s) N:=TT own hs h0 he rfl hk h1 hb hl n
theorem Js (own:Own w X w0.heap.size e k v rows) (hs:ak X0 w0 X w) (h0: ∀k,X0 k→k<w0.heap.size) (he:lO P t e k bytes=true) (hk:(k==1)=true)
  (ho:one x=true) (hb:(rows.length+1)*bytes≤140737488355328) (hl:rows.length+1≤2^63-1)
  (n: ∀v' w' X',ak X0 w0 X' w'→Own w' X' w0.heap.size e k v' (rows++[[x]])→fb (fV v) X w X' w'→(v'.ownBlock=v.ownBlock∨ ∃g,v'.ownBlock=some g∧w.heap.size≤g)→N v' w' X'):
  eV P R X w m (fR t e k 1 #[(0,x)]) fun s w1 X1=>eV P R X1 w1 true (gf t e k bytes ty v s) N:=by
 refine TT (row:=[x]) own hs h0 he ?_ (by simpa using (beq_iff_eq.1 hk).symm) (by simpa using ho) hb hl n;cases x<;>first|rfl|cases ho
theorem Iv (own:Own w X w0.heap.size e k v rows) (hs:ak X0 w0 X w) (h0: ∀k,X0 k→k<w0.heap.size) (he:lO P t e k bytes=true) (src:Sl w X k s dY) (h1: ∀r∈dY,∀u∈r,one u=true)
  (hb:(rows.length+dY.length)*bytes≤140737488355328) (hl:rows.length+dY.length≤2^63-1)
  (n: ∀v' w' X',ak X0 w0 X' w'→Own w' X' w0.heap.size e k v' (rows++dY)→fb (fV v) X w X' w'→(v'.ownBlock=v.ownBlock∨ ∃g,v'.ownBlock=some g∧w.heap.size≤g)→N v' w' X'):
  eV P R X w true (gf t e k bytes ty v s) N:=by
 obtain⟨hu,js,xG,z,hi,hz,sY⟩:=ku he;refine yr (dY:=dY) z hu hi sY js hs.has hs.kp.size own src h1 hb hl fun v2 w2 X2 hg ho fe=>?_;have hd: ∀g,v.ownBlock=some g→w0.heap.size≤g:=fun g hg=>(own.ge hg).1;refine n v2 w2 X2 (hs.grown hg fun g CU he=>?_) ho (hg.fF.mono fun k _ hk=>hk.symm) fe;have:=hd g he.symm;have:=h0 g CU;omega
theorem LS (hX: ∀k,X k→k<w.heap.size) (hu:P.underlying t=some (.slice e)) (hz:(P.info? e).map (·.size)=some k)
  (n: ∀v w' X',ak X w X' w'→Own w' X' w.heap.size e k v []→N v w' X'):eV P R X w m (fR t e k 0 #[]) N:=TP hX hu hz n
end
theorem Xb {t e k bytes len:Nat} {parts:Array (Nat×Value)} {rows:List (List Value)} {N:Value→World→XS→Prop} (cells:Array Value) (z:Value) (hX: ∀k,X k→k<w.heap.size) (he:lO P t e k bytes=true)
  (hz:(P.info? e).bind (·.zero)=some z) (RK:0<len*k) (Ip:len*k≤2^24)
  (h:kK (fun i=>some (i*k,k)) ((sX (len*k)).map (z.cells[· % z.cells.size]!)) parts.toList=some cells)
  (AF: ∀r∈rows,r.length=k) (hlen:rows.length=len) (hc:cells.toList=rows.flatten)
  (n: ∀v w' X',ak X w X' w'→Own w' X' w.heap.size e k v rows→N v w' X'):eV P R X w m (fR t e k len parts) N:=by
 obtain⟨hu,js,xG,z',hi,Hy,sY⟩:=ku he;have:z'=z:=by
  cases hq:P.info? e with
  |none=>simp [hq] at hz
  |some ie=>cases mn:ie.zero<;>simp_all
 subst this;exact uE cells z' hX hu Hy RK Ip h AF hlen hc n
end Go.aX
