/-
 Part 2 of the proof: what the last text leans on.
-/
import Derived.Laws.Rows
import Derived.Laws.Pointers
import Derived.Deep.MidRow
import Derived.Laws.StructEq
import Derived.Maps.AppendAt
import Derived.Laws.OwnMore
import Derived.Great.BuildSlice
import Derived.Maps.RangeRun
import Derived.Laws.FloatArith
import Derived.Test.YtpdkoaklobnegaaGreatH1
open Go.Result renaming andThen_ok → bt
open Option.some renaming injEq → aB
open Go.Sem renaming run_bind → bO, run_pure → ck, run → sA
open Nat renaming le_trans → ah, lt_of_lt_of_le → aK, le_refl → bf, zero_add → fp, mod_eq_of_lt → ek
open Go.Value renaming int → aC, cells → ad, ownBlock → gW, agg → aF
open Option renaming map_some → bM, bind_some → cN
open Bool renaming and_eq_true → aA, false_eq_true → bu, not_eq_true' → bV
open Go.Op renaming bytesLess → bY, intCmp → pA, stringOp → na, floatCmp → pJ, equalIn → qI, unary → bg, eqFields → tc, intArith → xN
open Go.Instr renaming checkKey → iC, loadAt → iF, fill → oC, sameBits → lh, buildSlice → iD, findNow → nE, findKey → qk, extract → aH, box → dx, sameNow → uQ, findAsking → rP, makeMap → uR, mapUpdate → gK, range → xO, entry → lU, index → xP, sureAddr → jO, keyThatStays → vt
open Prod.mk renaming injEq → dg
open PUnit renaming unit → lj
open List renaming toList_toArray → fG, getElem?_eq_getElem → bB, length_cons → aY, map_cons → bc, getD → kN, drop_of_length_le → gL, drop_eq_getElem_cons → jN, mem_append → kB, mem_append_left → bR, mem_append_right → dH, nil_append → cT, mem_singleton → aV, flatMap_cons → wR, mem_cons_self → ju, mem_cons_of_mem → aZ, getElem?_eq_none → jJ, getElem?_take → kF, getElem?_cons_zero → fP, flatten_cons → cD, eq_nil_of_length_eq_zero → fA, length_append → ae, append_nil → bZ, findIdx?_cons → iG, getElem?_map → cr, map_append → aT, nodup_append → lf
open BitVec renaming ofInt → aQ
open Go.Builtin renaming len_ → kR, delete_ → sK, append_ → eu, min_ → mD, min2 → CY
open Array renaming length_toList → dC, getElem?_setIfInBounds → dQ, replicate → dz, range → xQ, getElem?_append → jK, getElem?_replicate → iR
open Go.ByteArray renaming toList_eq → ey
open ForInStep renaming yield → oX
open Go.World renaming ownsRow_lit → wS
set_option linter.unusedVariables false
set_option linter.unusedSimpArgs false
namespace Go.dL
section
variable {P : Program}
theorem CZ {X:XS} {w w':World} : ∀k,X k→grow X w w' k:=fun _ h=>.inl h
theorem SZ {m:Bool} {X:XS} {w:World} {n n':Value→World→XS→Prop} {p p':List PanicEntry→World→XS→Prop} {r:Result Next} (h:jy P m X w n p r)
  (hn: ∀v w' X',(∀k,X k→X' k)→n v w' X'→n' v w' X') (hp: ∀c w' X',(∀k,X k→X' k)→p c w' X'→p' c w' X'):jy P m X w n' p' r:=by
 cases r with
 |ok x w'=>
  cases x<;>simp only [jy] at h⊢
  case value v=>exact⟨h.1,hn _ _ _ CZ h.2⟩
  case skip=>exact⟨h.1,hn _ _ _ CZ h.2⟩
  case enter f args=>
   refine⟨h.1,h.2.mono fun e kq he=>?_⟩;cases e with
   |returned v=>exact⟨he.1,hn _ _ _ CZ he.2⟩
   |panicked c=>exact⟨he.1,hp _ _ _ CZ he.2⟩
   |outgrown=>exact he
 |halt x w'=>
  cases x<;>simp only [jy] at h⊢
  case panic v=>exact⟨h.1,hp _ _ _ CZ h.2⟩
theorem agV {env:Env} {d s:Nat} {v:Value} (h: ¬s=d):kT env d v s=env s:=gG _ _ h
theorem aeO {env:Env} {d:Option Nat} {s:Nat} {v:Value} (h: ¬s∈d.toList):I8 env d v s=env s:=by
 cases d with
 |none=>rfl
 |some d=>exact gG _ _ (by simpa using h)
theorem PR: ∀(l:List TI) {gY N6:List PanicEntry→Env→World→XS→Prop} {next next':Env→World→XS→Prop} {env:Env} {w:World} {X:XS},
  gv P gY next l env w X→
  (∀e w' X',(∀k,X k→X' k)→(∀s,¬s∈l.flatMap TI.wr→e s=env s)→next e w' X'→next' e w' X')→
  (∀c e w' X',(∀k,X k→X' k)→(∀s,¬s∈l.flatMap TI.wr→e s=env s)→gY c e w' X'→N6 c e w' X')→gv P N6 next' l env w X
 |[],_,_,_,_,_,_,_,h,hn,_=>hn _ _ _ (fun _ h=>h) (fun _ _=>rfl) h
 |i::l,gY,N6,next,next',env,w,X,h,hn,hp=>by
  have step: ∀(sL:Env) (w1:World) (X1:XS),(∀k,X k→X1 k)→(∀s,¬s∈i.wr→sL s=env s)→gv P gY next l sL w1 X1→gv P N6 next' l sL w1 X1:=by
   intro sL w1 X1 Kd HV h1;refine PR l h1 (fun e w' X' hX he hq=>hn e w' X' (fun k hk=>hX k (Kd k hk)) (fun s hs=>?_) hq) (fun c e w' X' hX he hq=>hp c e w' X' (fun k hk=>hX k (Kd k hk)) (fun s hs=>?_) hq)
   ·simp only [wR,kB,not_or] at hs;rw [he s hs.2,HV s hs.1]
   ·simp only [wR,kB,not_or] at hs;rw [he s hs.2,HV s hs.1]
  have pst: ∀c w1 X1,(∀k,X k→X1 k)→gY c env w1 X1→N6 c env w1 X1:=fun c w1 X1 Kd hq=>hp c env w1 X1 Kd (fun _ _=>rfl) hq;have dV: ∀(d:Nat) (v:Value) (w1:World) (X1:XS),i.wr=[d]→(∀k,X k→X1 k)→gv P gY next l (kT env d v) w1 X1→gv P N6 next' l (kT env d v) w1 X1:=
   fun d v w1 X1 hw Kd h1=>step _ _ _ Kd (fun s hs=>agV (by rw [hw] at hs;simpa using hs)) h1
  have stO: ∀(d:Option Nat) (v:Value) (w1:World) (X1:XS),i.wr=d.toList→(∀k,X k→X1 k)→gv P gY next l (I8 env d v) w1 X1→gv P N6 next' l (I8 env d v) w1 X1:=
   fun d v w1 X1 hw Kd h1=>step _ _ _ Kd (fun s hs=>aeO (by rw [hw] at hs;exact hs)) h1
  cases i with
  |Er b=>exact dt.2 ⟨(dt.1 h).1,step _ _ _ (fun _ h=>h) (fun _ _=>rfl) (dt.1 h).2⟩
  |set d e=>exact dV d _ _ _ rfl (fun _ h=>h) h
  |box b n e=>exact dt.2 ⟨(dt.1 h).1,dV b _ _ _ rfl (fun _ h=>h) (dt.1 h).2⟩
  |put b off n e=>
   have h2:=dt.1 (dt.1 h).2;exact dt.2 ⟨(dt.1 h).1,dt.2 ⟨h2.1,dV b _ _ _ rfl (fun _ h=>h) h2.2⟩⟩
  |wW b e=>exact dt.2 ⟨(dt.1 h).1,dV b _ _ _ rfl (fun _ h=>h) (dt.1 h).2⟩
  |Uk b off e=>exact dt.2 ⟨(dt.1 h).1,dV b _ _ _ rfl (fun _ h=>h) (dt.1 h).2⟩
  |fill b n e=>
   have h2:=dt.1 (dt.1 h).2;exact dt.2 ⟨(dt.1 h).1,dt.2 ⟨h2.1,dV b _ _ _ rfl (fun _ h=>h) h2.2⟩⟩
  |rd d op ty ss=>
   obtain⟨v,h1,h2⟩:=h;exact⟨v,h1,dV d _ _ _ rfl (fun _ h=>h) h2⟩
  |AY d op ty ss m=>exact fun wa xa=>SZ (h wa xa) (fun v w' X' hX hq=>stO d v w' X' rfl hX hq) (fun c w' X' hX hq=>pst c w' X' hX hq)
  |Ul g want d e=>exact dV d _ _ _ rfl (fun _ h=>h) h
  |grd g want d op ty ss=>
   obtain⟨v,h1,h2,h3⟩:=h;exact⟨v,h1,h2,dV d _ _ _ rfl (fun _ h=>h) h3⟩
  |Um g want d op ty ss m=>
   exact⟨fun hg wa xa=>SZ (h.1 hg wa xa) (fun v w' X' hX hq=>stO d v w' X' rfl hX hq) (fun c w' X' hX hq=>pst c w' X' hX hq),fun hg=>stO d _ _ _ rfl (fun _ h=>h) (h.2 hg)⟩
theorem WB {M:List Nat} {e env:Env} {s:Nat} (h:s∈M):merge M e env s=e s:=by simp [merge,wF.2 h]
theorem DR {M:List Nat} {e env:Env} {s:Nat} (h: ¬s∈M):merge M e env s=env s:=by
 have:B6 M s=false:=by
  cases hx:B6 M s with
  |false=>rfl
  |true=>exact absurd (wF.1 hx) h
 simp [merge,this]
theorem ou: ∀(t:T) {K K':oD} {env:Env} {w:World} {X:XS},den P t K env w X→
  (∀ex e w' X',(∀k,X k→X' k)→(∀s,¬s∈t.wr→e s=env s)→K ex e w' X'→K' ex e w' X')→den P t K' env w X
 | .EY l,K,K',env,w,X,h,hk=>PR l h (fun e w' X' hX he hq=>hk _ e w' X' hX he hq) (fun c e w' X' hX he hq=>hk _ e w' X' hX he hq)
 | .seq a b,K,K',env,w,X,h,hk=>by
  refine ou a (K:=oD.Zi (fun e w X=>den P b K e w X) K) h fun ex e w' X' hX he hq=>?_;have xy: ∀s,¬s∈(T.seq a b).wr→e s=env s:=fun s hs=>he s (fun hc=>hs (bR _ hc));cases ex with
  |normal=>
   refine ou b (K:=K) hq fun ex2 e2 w2 X2 hX2 HW OU=>hk ex2 e2 w2 X2 (fun k hk=>hX2 k (hX k hk)) (fun s hs=>?_) OU;rw [HW s (fun hc=>hs (dH _ hc)),xy s hs]
  |exit i=>exact hk _ e w' X' hX xy hq
  |goto i=>exact hk _ e w' X' hX xy hq
  |ret=>exact hk _ e w' X' hX xy hq
  |panic c=>exact hk _ e w' X' hX xy hq
  |outgrown=>exact hk _ e w' X' hX xy hq
 | .ite c a b,K,K',env,w,X,h,hk=>by
  simp only [den,ao] at h⊢;split at h
  ·refine⟨fun ht=>ou a (h.1 ht) fun ex e w' X' hX he hq=>hk ex e w' X' hX (fun s hs=>he s (fun hc=>hs (bR _ hc))) hq,
    fun ht=>ou b (h.2 ht) fun ex e w' X' hX he hq=>hk ex e w' X' hX (fun s hs=>he s (fun hc=>hs (dH _ hc))) hq⟩
  ·exact h
 | .iu id a,K,K',env,w,X,h,hk=>by
  refine ou a (K:=oD.iu id K) h fun ex e w' X' hX he hq=>?_;cases ex with
  |exit i=>
   simp only [oD.iu] at hq⊢;split
   ·rename_i hi;rw [if_pos hi] at hq;exact hk _ e w' X' hX he hq
   ·rename_i hi;rw [if_neg hi] at hq;exact hk _ e w' X' hX he hq
  |normal=>exact hk _ e w' X' hX he hq
  |goto i=>exact hk _ e w' X' hX he hq
  |ret=>exact hk _ e w' X' hX he hq
  |panic c=>exact hk _ e w' X' hX he hq
  |outgrown=>exact hk _ e w' X' hX he hq
 | .loop M C a,K,K',env,w,X,h,hk=>by
  obtain⟨J,h0,hJ⟩:=h;refine⟨J,h0,fun n e w' X' hX hj=>?_⟩;refine ou a (K:=oD.Zi (fun e' kq sR=> ∃m,m<n∧J m (C.map e') kq sR) K) (hJ n e w' X' hX hj) fun ex e2 w2 X2 hX2 HW hq=>?_;have pe: ∀k,X k→X2 k:=fun k hk=>hX2 k (hX k hk);have xy: ∀s,¬s∈(T.loop M C a).wr→e2 s=env s:=fun s hs=>by
   simp only [T.wr,kB,not_or] at hs;rw [HW s hs.2];exact DR hs.1
  cases ex with
  |normal=>exact hq
  |exit i=>exact hk _ e2 w2 X2 pe xy hq
  |goto i=>exact hk _ e2 w2 X2 pe xy hq
  |ret=>exact hk _ e2 w2 X2 pe xy hq
  |panic c=>exact hk _ e2 w2 X2 pe xy hq
  |outgrown=>exact hk _ e2 w2 X2 pe xy hq
 | .exit id,K,K',env,w,X,h,hk=>hk _ _ _ _ (fun _ h=>h) (fun _ _=>rfl) h
 | .ret,K,K',env,w,X,h,hk=>hk _ _ _ _ (fun _ h=>h) (fun _ _=>rfl) h
 | .skip,K,K',env,w,X,h,hk=>hk _ _ _ _ (fun _ h=>h) (fun _ _=>rfl) h
theorem aeP {Q:Exit→Act→World→Prop} {a:Act} {w:World} {c:Code} (I:Nat→Act→World→Prop) (h₀: ∃n,I n a w)
  (round: ∀n a w,I n a w→c.wp P (Exit.then (fun a' w'=> ∃m,m<n∧I m a' w') Q) a w):(Code.loop c).wp P Q a w:=by
 intro b k cs;have key: ∀n a w,I n a w→ ∃e a' w',Q e a' w'∧Arrives P (lone (b.at a (.code c:: .inLoop c::k)) cs w) b k cs e a' w':=by
  intro n
  induction n using Nat.strongRecOn with
  |_ n ih=>
   intro a w hI;obtain⟨e,a₁,w₁,hq,Ke⟩:=round n a w hI b (.inLoop c::k) cs;cases e with
   |normal=>
    obtain⟨m,cH,hI₁⟩:=hq;obtain⟨e₂,a₂,w₂,hq₂,harr₂⟩:=ih m cH a₁ w₁ hI₁;exact⟨e₂,a₂,w₂,hq₂,.of_steps (Steps.trans Ke (.one step_inLoop)) harr₂⟩
   |exit id=>exact⟨_,a₁,w₁,hq,.pass (x:=.inLoop c) rfl (fun _ _=>.inl (by simp)) Ke⟩
   |goto l=>exact⟨_,a₁,w₁,hq,.pass (x:=.inLoop c) rfl (fun _ _=>.inl (by simp)) Ke⟩
   |ret=>exact⟨_,a₁,w₁,hq,.pass (x:=.inLoop c) rfl (fun _ _=>.inl (by simp)) Ke⟩
   |panic ch=>exact⟨_,a₁,w₁,hq,.pass (x:=.inLoop c) rfl (fun _ _=>.inl (by simp)) Ke⟩
   |outgrown=>exact⟨_,a₁,w₁,hq,.pass (x:=.inLoop c) rfl (fun _ _=>.inl (by simp)) Ke⟩
 obtain⟨n,h₀⟩:=h₀;obtain⟨e,a',w',hq,Ke⟩:=key n a w h₀;exact⟨e,a',w',hq,.of_steps (.one step_loop) Ke⟩
end
def QP (pl:bG) (ds:Bk) (K:oD):Exit→Act→World→Prop
 | .panic ch,a,w=>a.defers=ds.ds∧ ∃env X w0,Kp X w0 w∧K (.panic ch) env w0 X∧xd pl ds env X a w
 | .outgrown,_,_=>False
 |e,a,w=> ∃env X w0,eH pl ds .start env X w0 a w∧K e env w0 X
section
variable {P : Program} {pl : bG} {ds : Bk}
theorem eH.drop {cs:CS} {env:Env} {X:XS} {w0 w:World} {a:Act} (h:eH pl ds cs env X w0 a w):eH pl ds .start env X w0 a w:=
 { h with sig:=fun _ hp=>(by cases hp),live:=fun _ hp=>(by cases hp),ptr:=fun _ hp=>(by cases hp) }
theorem PS: ∀(l acc:List Nat) (s:Nat),(s∈l∨s∈acc)→s∈qm l acc
 |[],acc,s,h=>h.elim (fun h=>by cases h) id
 |x::r,acc,s,h=>by
  simp only [qm];refine PS r _ s ?_;rcases h with h|h
  ·rcases List.mem_cons.1 h with rfl|h
   ·right;split
    ·rename_i hc;simpa using hc
    ·exact ju ..
   ·exact .inl h
  ·right;split
   ·exact h
   ·exact aZ _ h
theorem QP.mono {K K':oD} (h: ∀ex e w X,K ex e w X→K' ex e w X) (ex:Exit) (a:Act) (w:World) (hq:QP pl ds K ex a w):QP pl ds K' ex a w:=by
 cases ex<;>simp only [QP] at hq⊢
 case panic ch=>obtain⟨h1,env,X,w0,h2,h3,h4⟩:=hq;exact⟨h1,env,X,w0,h2,h _ _ _ _ h3,h4⟩
 all_goals (obtain⟨env,X,w0,h2,h3⟩:=hq;exact⟨env,X,w0,h2,h _ _ _ _ h3⟩)
theorem Ly: ∀(c:Code) (t:T) (K:oD) (env:Env) (X:XS) (w0:World) (a:Act) (w:World),
  kJ P pl c=some t→(∀b,b∈t.mk→ ∀p,p∈ds.pins→p.1≠b)→eH pl ds .start env X w0 a w→den P t K env w0 X→c.wp P (QP pl ds K) a w:=by
 intro c
 induction c with
 |skip=>
  intro t K env X w0 a w hc hm h hd;simp only [kJ,aB] at hc;subst hc;exact wp_skip ⟨env,X,w0,h,hd⟩
 |region id ops draw=>
  intro t K env X w0 a w hc hm h hd;have hN: ∀mY a' w' dK X' eB,eH pl ds mY dK X' eB a' w'→(fun e w X=>K .normal e w X) dK eB X'→QP pl ds K .normal a' w':=
   fun mY a' w' dK X' eB h1 h2=>⟨dK,X',eB,h1.drop,h2⟩
  have hQ: ∀ch a' w' dK X' eB,a'.defers=ds.ds→Kp X' eB w'→xd pl ds dK X' a' w'→(fun ch=>K (.panic ch)) ch dK eB X'→QP pl ds K (.panic ch) a' w':=
   fun ch a' w' dK X' eB h0 h1 AJ h2=>⟨h0,dK,X',eB,h1,h2,AJ⟩
  simp only [kJ] at hc;split at hc
  ·rename_i Jl;subst Jl;split at hc
   ·rename_i UI;simp only [aA] at UI;cases hl:sT P pl ops ops.size (dz ops.size false) .start with
    |none=>simp [hl] at hc
    |some tl=>
     simp only [hl,bM,aB] at hc;subst hc;refine wp_region_any UI.1 (OL (pl:=pl) _ _ _ _ ?_);refine Fa hN hQ (fun c a d v w hd hq=>?_) UI.2 _ _ _ tl env X w0 _ _ hl hm (h.fL (Ext.drew w)) hd;obtain⟨h1,e,X',eB,h2,h3,h4⟩:=hq;exact⟨by cases d<;>exact h1,e,X',eB,h2,h3,h4.put hd⟩
   ·cases hc
  ·rename_i Jl;simp only [Bool.not_eq_true] at Jl;subst Jl;cases hl:B7 P pl ops ops.toList .start with
   |none=>simp [hl] at hc
   |some tl=>
    simp only [hl,bM,aB] at hc;subst hc;exact wp_region_list (E9 hN hQ ops.toList .start tl env X w0 a w hl hm h hd)
 |seq x y ihx ihy=>
  intro t K env X w0 a w hc hm h hd;simp only [kJ] at hc;cases hx:kJ P pl x with
  |none=>simp [hx] at hc
  |some tx=>
   cases hy:kJ P pl y with
   |none=>simp [hx,hy] at hc
   |some ty=>
    simp only [hx,hy,aB] at hc;have Bs:den P (.seq tx ty) K env w0 X:=by
     subst hc;split at hd
     ·exact hd
     ·show den P tx (oD.Zi (fun e w X=>den P .skip K e w X) K) env w0 X
      refine ou tx hd fun ex e w' X' _ _ hq=>?_;cases ex<;>exact hq
     ·exact hd
    have hmm: ∀b,b∈tx.mk∨b∈ty.mk→ ∀p,p∈ds.pins→p.1≠b:=fun b hb=>hm b (by
     rw [←hc];split
     ·exact hb.resolve_left (fun h=>by cases h)
     ·exact hb.resolve_right (fun h=>by cases h)
     ·exact List.mem_append.2 hb)
    refine wp_seq (wp_mono (ihx tx _ env X w0 a w hx (fun b hb=>hmm b (.inl hb)) h Bs) fun ex a' w' hq=>?_);cases ex with
    |normal=>
     obtain⟨e,X',eB,h1,h2⟩:=hq;exact ihy ty K e X' eB a' w' hy (fun b hb=>hmm b (.inr hb)) h1 h2
    |exit i=>exact hq
    |goto i=>exact hq
    |ret=>exact hq
    |panic c=>exact hq
    |outgrown=>exact hq
 |cond c x y ihx ihy=>
  intro t K env X w0 a w hc hm h hd;simp only [kJ] at hc;cases hv:valOf pl .start c with
  |none=>simp [hv] at hc
  |some e=>
   cases hx:kJ P pl x with
   |none=>simp [hv,hx] at hc
   |some tx=>
    cases hy:kJ P pl y with
    |none=>simp [hv,hx,hy] at hc
    |some ty=>
     simp only [hv,hx,hy,aB] at hc;subst hc;have he:=h.eval hv;simp only [den,ao] at hd;split at hd
     ·rename_i b hb;rw [hb] at he;exact wp_cond_split he (fun ht=>ihx tx K env X w0 a w hx (fun b hb=>hm b (bR _ hb)) h (hd.1 ht)) (fun ht=>ihy ty K env X w0 a w hy (fun b hb=>hm b (dH _ hb)) h (hd.2 ht))
     ·exact hd.elim
 |block id x ih=>
  intro t K env X w0 a w hc hm h hd;simp only [kJ] at hc;cases hx:kJ P pl x with
  |none=>simp [hx] at hc
  |some tx=>
   simp only [hx,bM,aB] at hc;subst hc;refine wp_block (wp_mono (ih tx _ env X w0 a w hx hm h hd) fun ex a' w' hq=>?_);cases ex with
   |exit i=>
    obtain⟨e,X',eB,h1,h2⟩:=hq;simp only [Exit.inBlock,oD.iu] at h2⊢;split
    ·rename_i hi;rw [if_pos hi] at h2;exact⟨e,X',eB,h1,h2⟩
    ·rename_i hi;rw [if_neg hi] at h2;exact⟨e,X',eB,h1,h2⟩
   |normal=>exact hq
   |goto i=>exact hq
   |ret=>exact hq
   |panic c=>exact hq
   |outgrown=>exact hq
 |loop x ih=>
  intro t K env X w0 a w hc hm h hd;simp only [kJ] at hc;cases hx:kJ P pl x with
  |none=>simp [hx] at hc
  |some tx=>
   simp only [hx,bM,aB] at hc;subst hc;obtain⟨J,⟨n0,h0⟩,hJ⟩:=hd;refine aeP (fun n a w=> ∃e X' eB,eH pl ds .start (merge (qm tx.wr []) e env) X' eB a w∧(∀k,X k→X' k)∧J n (((qm tx.wr []).filter (B6 pl.car)).map e) eB X') ⟨n0,env,X,w0,?_,fun _ h=>h,h0⟩ ?_
   ·have:merge (qm tx.wr []) env env=env:=by
     funext s
     by_cases hs:s∈qm tx.wr []
     ·exact WB hs
     ·exact DR hs
    rw [this];exact h
   ·rintro n a w ⟨e,X',eB,h1,h2,h3⟩;have WC:=hJ n e eB X' h2 h3;have pY:=ou tx (K':=fun ex e' kq sR=>oD.Zi (fun e' kq sR=> ∃m,m<n∧J m (((qm tx.wr []).filter (B6 pl.car)).map e') kq sR) K ex e' kq sR∧(∀k,X' k→sR k)∧ ∀s,¬s∈tx.wr→e' s=merge (qm tx.wr []) e env s) WC
     fun ex e' w' sR hX he hq=>⟨hq,hX,he⟩
    refine wp_mono (ih tx _ _ X' eB a w hx hm h1 pY) fun ex a' w' hq=>?_;cases ex with
    |normal=>
     obtain⟨e',sR,Cb,g1,⟨m,hm,g2⟩,g3,g4⟩:=hq;refine⟨m,hm,e',sR,Cb,?_,fun k hk=>g3 k (h2 k hk),g2⟩;have:merge (qm tx.wr []) e' env=e':=by
      funext s
      by_cases hs:s∈qm tx.wr []
      ·exact WB hs
      ·rw [DR hs,g4 s fun hc=>hs (PS _ _ _ (.inl hc)),DR hs]
     rw [this];exact g1
    |exit i=>obtain⟨e',sR,Cb,g1,g2,_⟩:=hq;exact⟨e',sR,Cb,g1,g2⟩
    |goto i=>obtain⟨e',sR,Cb,g1,g2,_⟩:=hq;exact⟨e',sR,Cb,g1,g2⟩
    |ret=>obtain⟨e',sR,Cb,g1,g2,_⟩:=hq;exact⟨e',sR,Cb,g1,g2⟩
    |panic c=>obtain⟨g0,e',sR,Cb,g1,⟨g2,_⟩,g3⟩:=hq;exact⟨g0,e',sR,Cb,g1,g2,g3⟩
    |outgrown=>exact hq
 |exit id=>
  intro t K env X w0 a w hc hm h hd;simp only [kJ,aB] at hc;subst hc;exact wp_exit ⟨env,X,w0,h,hd⟩
 |ret=>
  intro t K env X w0 a w hc hm h hd;simp only [kJ,aB] at hc;subst hc;exact wp_ret ⟨env,X,w0,h,hd⟩
 |rangeFunc=>intro t K env X w0 a w hc;cases hc
 |scope=>intro t K env X w0 a w hc;cases hc
 |label=>intro t K env X w0 a w hc;cases hc
 |goto=>intro t K env X w0 a w hc;cases hc
 |refuse=>intro t K env X w0 a w hc;cases hc
def abv (tmps:Array Value):ResultVar→Sem Value
 | .tmp t=>pure (tmps.getD t undef)
 | .cell c t=>do loadVar t (←asAddr (tmps.getD c undef))
theorem WD {env:Env} {X:XS} {w0 w:World} {a:Act} {cs:CS} (h:eH pl ds cs env X w0 a w): ∀(l:List ResultVar) (es:List Ex) (nd:List Nat),
  B8 P pl l=some (es,nd)→(∀b,b∈nd→dO (env b)=true)→
  (l.mapM (abv a.tmps)).run P w=Result.ok (es.map (·.ev env)) w
 |[],es,nd,hc,_=>by
  simp only [B8,aB,dg] at hc;rw [←hc.1];rfl
 | .tmp t::r,es,nd,hc,hl=>by
  simp only [B8] at hc;split at hc
  ·rename_i hg;cases hr:B8 P pl r with
   |none=>simp [hr] at hc
   |some x=>
    obtain⟨zW,nd'⟩:=x;simp only [hr,bM,aB,dg] at hc;obtain⟨rfl,rfl⟩:=hc;have ih:=WD h r zW nd' hr hl;simp [List.mapM_cons,abv,ih,h.nk t hg,Ex.ev]
  ·cases hc
 | .cell c t::r,es,nd,hc,hl=>by
  simp only [B8] at hc;split at hc
  ·rename_i bs ag sz hb ht;split at hc
   ·rename_i mZ;simp only [aA,decide_eq_true_eq] at mZ;cases hr:B8 P pl r with
    |none=>simp [hr] at hc
    |some x=>
     obtain⟨zW,nd'⟩:=x;simp only [hr,bM,aB,dg] at hc;obtain⟨rfl,rfl⟩:=hc;have ih:=WD h r zW nd' hr fun b hb=>hl b (aZ _ hb);obtain⟨cells,Bm⟩:=su.1 (hl c (ju ..));obtain⟨k,ty,e1,e2,e3,_⟩:=h.box c bs hb cells Bm;have hld:=OM ht mZ.2 e2 0 zQ;have alL:(loadVar t ⟨k,0,none⟩).run P w= .ok (if ag then ef (.agg cells) 0 sz else cellOf (.agg cells) 0) w:=by
      simpa [iF,jO,ed] using hld
     have E8:(if ag then Ex.s c 0 sz else Ex.k c 0).ev env=if ag then ef (.agg cells) 0 sz else cellOf (.agg cells) 0:=by
      cases ag<;>simp [Ex.ev,Bm]
     simp [List.mapM_cons,abv,ih,e1,ed,asAddr,alL,E8]
   ·cases hc
  ·cases hc
theorem Lz {env:Env} {X:XS} {w0 w:World} {a:Act} {cs:CS} (h:eH pl ds cs env X w0 a w) {fn:Func} {es:List Ex} {nd:List Nat}
  (hc:B8 P pl fn.results.toList=some (es,nd)) (hl: ∀b,b∈nd→dO (env b)=true):(results fn a.tmps).run P w= .ok (Ur es env) w:=by
 have hr:=WD h _ _ _ hc hl;have hf:results fn a.tmps=(do let vs←fn.results.mapM (abv a.tmps);pure (if h:vs.size=1 then vs[0] else .tuple vs)):=by
  unfold results
  congr 2
 rw [hf,Array.mapM_eq_mapM_toList];simp only [bO,Sem.run_map,hr,bt,ck]
 congr 1
 match es with
 |[]=>rfl
 |[e]=>rfl
 |e::e'::r=>simp [Ur]
def N7 (P:Program) (o:Option FT) (R:Ending→World→Prop) (args:Array Value) (w:World):Prop:=match o with
 |some ft=>den P ft.code (Us ft R) (lI args) w (ba w)
 |none=>False
theorem WE {f:FuncId} {fn:Func} {pl:bG} {ft:FT} {args:Array Value} {w:World} {R:Ending→World→Prop} (hf:P.funcs[f]? =some fn)
  (hc:cF P pl fn=some ft) (afV:args.size≤pl.n) (wy:(pl.boxes.all fun p=>decide (args.size≤p.1))=true)
  (h:den P ft.code (Us ft R) (lI args) w (ba w)):Calls P f args w R:=by
 unfold cF at hc;split at hc
 ·rename_i hn;have ke:fn.ntmps=pl.n:=by simpa using hn
  split at hc
  ·rename_i c hb;split at hc
   ·rename_i t r nd akb Kf;injection hc with hc
    subst hc;refine calls_of_wp hf hb (wp_mono (Ly (pl:=pl) (ds:=⟨[],[]⟩) c t (Us ⟨t,r,nd⟩ R) (lI args) (ba w) w _ w akb (fun _ _ _ hp=>by cases hp) ?_ h) fun ex a' w' hq=>?_)
    ·have abw:(args++dz (fn.ntmps-args.size) undef).size=pl.n:=by simp;omega
     have we: ∀s,s<pl.n→(args++dz (fn.ntmps-args.size) undef)[s]? =some (lI args s):=by
      intro s hs;rw [jK];split
      ·rename_i h1;simp [lI,kN,h1]
      ·rename_i h1;rw [iR,if_pos zQ];simp only [lI,kN];rw [jJ (by simpa using h1)];rfl
     have Kg: ∀b n,look pl.boxes b=some n→lI args b=undef:=by
      intro b n hb;have h1:=List.all_eq_true.1 wy _ (zi hb);simp only [decide_eq_true_eq] at h1;simp only [lI,kN];rw [jJ (by simpa using h1)];rfl
     exact {
      size:=abw
      defers:=rfl
      uV:=fun _ hp=>(by cases hp)
      ext:=Kp.refl _ _
      sU:=fun _ hk=>hk
      nk:=fun s hs=>we s (pN hs).1
      sig:=fun _ hp=>(by cases hp)
      box:=fun b n hb cells hc=>by rw [Kg b n hb] at hc;cases hc
      inj:=fun b b' n n' hb fR h1=>by rw [Kg b n hb] at h1;cases h1
      conv:=fun b n hb k hk=>by
       have h1:=List.all_eq_true.1 wy _ (zi hb);simp only [decide_eq_true_eq] at h1;rw [jK,if_neg zQ,iR] at hk;split at hk
       ·cases hk
       ·cases hk
      live:=fun _ hp=>(by cases hp)
      ptr:=fun _ hp=>(by cases hp) }
    ·cases ex with
     |normal=>
      obtain⟨e,X',eB,h1,hq⟩:=hq;obtain⟨h2,h3⟩:=dt.1 hq;exact⟨h1.defers,_,Lz h1 Kf (List.all_eq_true.1 h2),h3 w' h1.ext⟩
     |ret=>
      obtain⟨e,X',eB,h1,hq⟩:=hq;obtain⟨h2,h3⟩:=dt.1 hq;exact⟨h1.defers,_,Lz h1 Kf (List.all_eq_true.1 h2),h3 w' h1.ext⟩
     |panic ch=>
      obtain⟨h0,e,X',eB,h1,h2,_⟩:=hq;exact⟨h0,h2 w' h1⟩
     |exit i=>obtain⟨e,X',eB,h1,h2⟩:=hq;exact h2
     |goto i=>obtain⟨e,X',eB,h1,h2⟩:=hq;exact h2
     |outgrown=>exact hq.elim
   ·cases hc
  ·cases hc
 ·cases hc
theorem aL {f:FuncId} {fn:Func} {pl:bG} {args:Array Value} {w:World} {R:Ending→World→Prop} {V:Prop} (hf:P.funcs[f]? =some fn)
  (hs:(decide (args.size≤pl.n)&&pl.boxes.all fun p=>decide (args.size≤p.1))=true) (hv:V=N7 P (cF P pl fn) R args w) (h:V):Calls P f args w R:=by
 subst hv;unfold N7 at h;simp only [aA,decide_eq_true_eq] at hs;split at h
 ·rename_i ft hc;exact WE hf hc hs.1 hs.2 h
 ·exact h.elim
end
def ay (P:Program) (X:XS) (w:World) (s:Sem Next) (N:Value→Prop):Prop:= ∃v,Rd P X w s v∧N v
def aa (P:Program) (X:XS) (w:World) (s:Sem Value) (N:Value→Prop):Prop:=ay P X w (vS s) N
def aD (P:Program) (X:XS) (w:World) (g:Value) (want:Bool) (s:Sem Next) (N:Value→Prop):Prop:=
 ∃v,(lG g want=true→Rd P X w s v)∧(lG g want=false→v=undef)∧N v
def aO (g:Value) (want:Bool) (v:Value):Value:=if lG g want then v else undef
def aR (c a b:Value):Sem Next:=do pure (.value (if←asBool c then a else b))
def aE (x:Value):Sem Next:=execOp (fun _=>x) (QE (.nilCheck (.tmp 0)) 0)
def aJ (op:BinOp) (t:TypeId) (xo yo:Operand) (x y:Value):Sem Value:=do eqGuard op t xo yo x y;binOp op t x y
def uS (s:Sem Unit):Sem Next:=do s;pure .skip
def pn (R:Ending→World→Prop):List PanicEntry→World→XS→Prop:=fun ch w X=> ∀wa,Kp X w wa→R (.panicked ch) wa
def eW (P:Program) (R:Ending→World→Prop) (X:XS) (w:World) (m:Bool) (s:Sem Next) (N:Value→World→XS→Prop):Prop:=
 ∀wa,Kp X w wa→jy P m X wa N (pn R) (s.run P wa)
def eV (P:Program) (R:Ending→World→Prop) (X:XS) (w:World) (m:Bool) (s:Sem Value) (N:Value→World→XS→Prop):Prop:=eW P R X w m (vS s) N
def eU (P:Program) (R:Ending→World→Prop) (X:XS) (w:World) (m:Bool) (s:Sem Unit) (N:Value→World→XS→Prop):Prop:=eW P R X w m (uS s) N
def eC (P:Program) (R:Ending→World→Prop) (X:XS) (w:World) (m:Bool) (f:FuncId) (args:Array Value) (N:Value→World→XS→Prop):Prop:=eW P R X w m (callFunc f args) N
def eF (P:Program) (R:Ending→World→Prop) (X:XS) (w:World) (m:Bool) (f:Value) (args:Array Value) (N:Value→World→XS→Prop):Prop:=eW P R X w m (Gm f args) N
def gE (g:Value) (want:Bool) (A B:Prop):Prop:=(lG g want=true→A)∧(lG g want=false→B)
def fin (R:Ending→World→Prop) (X:XS) (w:World) (v:Value):Prop:= ∀wa,Kp X w wa→R (.returned v) wa
abbrev JT:=Nat→List Value→World→XS→Prop
def Aj (J:JT) (n:Nat) (vs:List Value) (w:World) (X:XS):Prop:= ∃m,m<n∧J m vs w X
def S7 (X:XS) (w:World) (vs:List Value) (C:List Nat) (B:JT→Nat→Env→World→XS→Prop):Prop:=
 ∃J:JT,(∃n,J n vs w X)∧ ∀n (e:Env) w' X',(∀k,X k→X' k)→J n (C.map e) w' X'→B J n e w' X'
variable {P : Program} {R : Ending → World → Prop} {X : XS} {w : World} {m : Bool}
theorem FK {s:Sem Value} {N:Value→Prop} (v:Value) (h: ∀wa,Kp X w wa→s.run P wa= .ok v wa) (k:N v):aa P X w s N:=
 ⟨v,fun wa hk=>by simp [vS,h wa hk],k⟩
theorem bX {s:Sem Value} {N:Value→Prop} {v:Value} (h: ∀wa,s.run P wa= .ok v wa) (k:N v):aa P X w s N:=
 FK v (fun wa _=>h wa) k
theorem WG {s:Sem Next} {N:Value→Prop} {v:Value} (h: ∀wa,s.run P wa= .ok (.value v) wa) (k:N v):ay P X w s N:=
 ⟨v,fun wa _=>h wa,k⟩
theorem B3 {α:Type} [BEq α] [LawfulBEq α] [DecidableEq α] (a b:α):(a==b)=decide (a=b):=by
 by_cases h:a=b<;>simp [h]
section
variable {N : Value → Prop} {t : TypeId} {k : IntKind} {a b : Int} {xo yo : Operand}
theorem agW (h:N (.bool (decide (a<b)))):aa P X w (binOp .lss t (.int k a) (.int k b)) N:=bX (fun wa=>by simp [binOp,pA]) h
theorem agX (h:N (.bool (decide (a≤b)))):aa P X w (binOp .leq t (.int k a) (.int k b)) N:=bX (fun wa=>by simp [binOp,pA]) h
theorem agY (h:N (.bool (decide (a>b)))):aa P X w (binOp .gtr t (.int k a) (.int k b)) N:=bX (fun wa=>by simp [binOp,pA]) h
theorem agZ (h:N (.bool (decide (a≥b)))):aa P X w (binOp .geq t (.int k a) (.int k b)) N:=bX (fun wa=>by simp [binOp,pA]) h
theorem Rl (h:N (.int k (k.wrap (a+b)))):aa P X w (binOp .add t (.int k a) (.int k b)) N:=bX (fun wa=>by simp [binOp,xN]) h
theorem ZS (h:N (.int k (k.wrap (a-b)))):aa P X w (binOp .sub t (.int k a) (.int k b)) N:=bX (fun wa=>by simp [binOp,xN]) h
theorem Rm (h:N (.int k (k.wrap (a*b)))):aa P X w (binOp .mul t (.int k a) (.int k b)) N:=bX (fun wa=>by simp [binOp,xN]) h
theorem ZT (h:N (.bool (decide (a=b)))):aa P X w (aJ .eql t xo yo (.int k a) (.int k b)) N:=
 bX (fun wa=>by simp [aJ,eqGuard,binOp,pA,B3]) h
theorem ag0 (h:N (.bool (decide (a≠b)))):aa P X w (aJ .neq t xo yo (.int k a) (.int k b)) N:=
 bX (fun wa=>by simp [aJ,eqGuard,binOp,pA,bne,B3]) h
end
section
variable {N : Value → Prop} {t : TypeId} {a b : ByteArray} {xo yo : Operand}
theorem aeQ (h:N (.bool (decide (a.toList=b.toList)))):aa P X w (aJ .eql t xo yo (.string a) (.string b)) N:=
 bX (fun wa=>by simp [aJ,eqGuard,binOp,na,B3]) h
theorem aeR (h:N (.bool (decide (a.toList≠b.toList)))):aa P X w (aJ .neq t xo yo (.string a) (.string b)) N:=
 bX (fun wa=>by simp [aJ,eqGuard,binOp,na,B3]) h
theorem aeS (h:N (.bool (bY a.toList b.toList))):aa P X w (binOp .lss t (.string a) (.string b)) N:=
 bX (fun wa=>by simp [binOp,na]) h
theorem aeT (h:N (.bool (!bY a.toList b.toList))):aa P X w (binOp .geq t (.string a) (.string b)) N:=
 bX (fun wa=>by simp [binOp,na]) h
theorem aeU (h:N (.bool (bY a.toList b.toList||decide (a.toList=b.toList)))):aa P X w (binOp .leq t (.string a) (.string b)) N:=
 bX (fun wa=>by simp [binOp,na,B3]) h
theorem aeV (h:N (.bool (!(bY a.toList b.toList||decide (a.toList=b.toList))))):aa P X w (binOp .gtr t (.string a) (.string b)) N:=
 bX (fun wa=>by simp [binOp,na,B3]) h
end
section
variable {N : Value → Prop} {t : TypeId} {k : FloatKind} {a b : Nat} {xo yo : Operand}
theorem aeW (h:N (.bool (k.format.order a b==some .lt))):aa P X w (binOp .lss t (.float k a) (.float k b)) N:=bX (fun wa=>by simp [binOp,pJ]) h
theorem aeX (h:N (.bool (k.format.order a b==some .lt||k.format.order a b==some .eq))):aa P X w (binOp .leq t (.float k a) (.float k b)) N:=
 bX (fun wa=>by simp [binOp,pJ]) h
theorem aeY (h:N (.bool (k.format.order a b==some .gt))):aa P X w (binOp .gtr t (.float k a) (.float k b)) N:=bX (fun wa=>by simp [binOp,pJ]) h
theorem aeZ (h:N (.bool (k.format.order a b==some .gt||k.format.order a b==some .eq))):aa P X w (binOp .geq t (.float k a) (.float k b)) N:=
 bX (fun wa=>by simp [binOp,pJ]) h
theorem ae0 (h:N (.bool (k.format.order a b !=some .eq))):aa P X w (aJ .neq t xo yo (.float k a) (.float k b)) N:=
 bX (fun wa=>by simp [aJ,eqGuard,binOp,pJ]) h
end
section
variable {N : Value → Prop} {t : TypeId} {k k2 : IntKind} {a b : Int}
theorem B4 (hb: ¬b<0) (h:N (.int k (a.fdiv (2^min b.toNat k.bits)))):aa P X w (binOp .shr t (.int k a) (.int k2 b)) N:=
 bX (fun wa=>by simp [binOp,Op.shift,hb]) h
theorem Lm (hb: ¬b<0) (h:N (.int k (k.wrap (a*2^min b.toNat k.bits)))):aa P X w (binOp .shl t (.int k a) (.int k2 b)) N:=
 bX (fun wa=>by simp [binOp,Op.shift,hb]) h
theorem Rn (h:N (.int k (k.wrap (aQ k.bits a^^^aQ k.bits b).toNat))):aa P X w (binOp .xor t (.int k a) (.int k b)) N:=
 bX (fun wa=>by simp [binOp,Op.intBits]) h
theorem LA (h:N (.int k (k.wrap (aQ k.bits a&&& aQ k.bits b).toNat))):aa P X w (binOp .and t (.int k a) (.int k b)) N:=
 bX (fun wa=>by simp [binOp,Op.intBits]) h
end
section
variable {N : Value → Prop} {b c : Bool} {g : Value}
theorem Z9 (h:N (.bool (!b))):aa P X w (bg .not (.bool b)) N:=bX (fun wa=>by simp [bg]) h
theorem WH {x y:Value} (h:N (if b then x else y)):ay P X w (aR (.bool b) x y) N:=WG (fun wa=>by simp [aR,asBool]) h
theorem z7 {x y:Value} (h:N x):ay P X w (aR (.bool true) x y) N:=WH h
theorem z8 {x y:Value} (h:N y):ay P X w (aR (.bool false) x y) N:=WH h
theorem LB {s:Sem Next} {want:Bool} (h:ay P X w s N):aD P X w (.bool want) want s N:=by
 obtain⟨v,hv,hn⟩:=h;exact⟨v,fun _=>hv,fun hf=>absurd hf (by simp [lG]),hn⟩
theorem WI {s:Sem Next} {want:Bool} (h:N undef):aD P X w (.bool (!want)) want s N:=
 ⟨undef,fun hf=>absurd hf (by cases want<;>simp [lG]),fun _=>rfl,h⟩
theorem Ck {s:Sem Next} (h:ay P X w s N):aD P X w (.bool true) true s N:=LB h
theorem ae1 {s:Sem Next} (h:ay P X w s N):aD P X w (.bool false) false s N:=LB h
theorem z6 {s:Sem Next} (h:N undef):aD P X w (.bool false) true s N:=WI (want:=true) h
theorem ac8 {s:Sem Next} (h:N undef):aD P X w (.bool true) false s N:=WI (want:=false) h
theorem ag1 {A B:Prop} (h:b=true→A) (k:b=false→B):ao (.bool b) A B:=⟨h,k⟩
theorem abx {want:Bool} {A B:Prop} (h:b=want→A) (k:b=!want→B):gE (.bool b) want A B:=
 ⟨fun e=>h (by simpa [lG] using e),fun e=>k (by revert e;cases b<;>cases want<;>simp [lG])⟩
theorem abk {A B:Prop} (h:A):gE (.bool true) true A B:=abx (fun _=>h) (by simp)
theorem alM {A B:Prop} (h:A):gE (.bool false) false A B:=abx (fun _=>h) (by simp)
theorem akc {A B:Prop} (h:B):gE (.bool true) false A B:=abx (by simp) (fun _=>h)
theorem abm {A B:Prop} (h:B):gE (.bool false) true A B:=abx (by simp) (fun _=>h)
theorem YA {vs:Array Value} {i:Nat} {v:Value} (hi:vs[i]? =some v) (h:N v):aa P X w (aH (.tuple vs) i) N:=
 bX (fun wa=>by simp [aH,hi]) h
theorem ag2 {a:Addr} (h:N (.pointer (some a))):ay P X w (aE (.pointer (some a))) N:=
 WG (fun _=>rfl) h
theorem WJ {t e:TypeId} {xo yo:Operand} {p:Option Addr} (ht:P.underlying t=some (.pointer e)) (h:N (.bool p.isNone)):
  aa P X w (aJ .eql t xo yo (.pointer p) (.pointer none)) N:=by
 refine bX (fun wa=>?_) h;have hp:P.pointee t=e:=by simp [Program.pointee,ht]
 have:=run_equal_pointer_nil (P:=P) (w:=wa) t p (by rw [hp];exact ht);simp [aJ,eqGuard,binOp,this]
end
theorem aio {f:FuncId} {args:Array Value} {N:Value→World→XS→Prop} (Q:Value→World→World→Prop)
  (hf: ∀wa,(callFunc f args).run P wa= .ok (.enter f args) wa)
  (h: ∀wa,Kp X w wa→Calls P f args wa fun e w'=> ∃v,e= .returned v∧Ext wa w'∧Q v wa w')
  (k: ∀v wa w',Kp X w wa→Ext wa w'→Q v wa w'→N v w' (grow X wa w')):eC P R X w m f args N:=by
 intro wa hk;unfold jy;rw [hf wa];refine⟨rfl,(h wa hk).mono ?_⟩;rintro e w' ⟨v,rfl,hx,hq⟩;exact⟨Step.fh hx,k v wa w' hk hx hq⟩
structure aj (X:XS) (w:World) (X':XS) (w':World):Prop where
 kp:Kp X w w'
 sub: ∀k,X k→X' k
 has: ∀k,X' k→k<w'.heap.size
theorem aj.init (w:World):aj (ba w) w (ba w) w:=⟨Kp.refl _ _,fun _ h=>h,fun _ h=>h⟩
theorem aj.trans {X Y Z:XS} {a b c:World} (h:aj X a Y b) (k:aj Y b Z c):aj X a Z c:=
 ⟨h.kp.trans (k.kp.less h.sub),fun i hi=>k.sub i (h.sub i hi),k.has⟩
theorem aj.fh {X:XS} {w wa w':World} (hX: ∀k,X k→k<w.heap.size) (hk:Kp X w wa) (hx:Ext wa w'):aj X w (grow X wa w') w':=
 ⟨hk.trans (hx.kp fun k h=>aK (hX k h) hk.size),fun _ h=>.inl h,
  fun k h=>h.elim (fun h=>aK (hX k h) (ah hk.size hx.size)) (fun h=>h.2)⟩
theorem aj.ext {w w':World} {X:XS} (h:aj (ba w) w X w') {wa:World} (hk:Kp X w' wa):Ext w wa:=(h.kp.trans (hk.less h.sub)).ext
variable {P : Program} {R : Ending → World → Prop} {X : XS} {w : World} {m : Bool}
def Pure (P:Program) (f:FuncId) (args:Array Value) (v:Value):Prop:=
 ∀w,Calls P f args w fun e w'=>e= .returned v∧Ext w w'
def akd (P:Program) (f:FuncId) (args:Array Value) (w:World) (Q:Value→World→Prop):Prop:=
 Calls P f args w fun e w'=> ∃v,e= .returned v∧Ext w w'∧Q v w'
def enters (P:Program) (f:FuncId):Bool:=match P.funcs[f]? with
 |some fn=>!(fn.name== "runtime.NumGoroutine")&&fn.body.isSome
 |none=>false
theorem pD {f:FuncId} (h:enters P f=true) (args:Array Value) (w:World):(callFunc f args).run P w= .ok (.enter f args) w:=by
 unfold enters at h;split at h
 ·rename_i fn hf;simp only [aA,bV] at h;obtain⟨c,hb⟩:=Option.isSome_iff_exists.1 h.2;have hn: ¬fn.name= "runtime.NumGoroutine" :=by simpa using h.1
  simp [callFunc,hf,hn,hb]
 ·cases h
theorem WK {f:FuncId} {args:Array Value} {N:Value→World→XS→Prop} {Q:Value→World→World→Prop}
  (hf:enters P f=true) (hX: ∀k,X k→k<w.heap.size)
  (h: ∀wa,Kp X w wa→akd P f args wa (Q · wa))
  (k: ∀v wa w' X',Kp X w wa→Ext wa w'→(∀k,wa.heap.size≤k→k<w'.heap.size→X' k)→Q v wa w'→aj X w X' w'→N v w' X'):
  eC P R X w m f args N:=by
 refine aio Q (pD hf args) (fun wa hk=>?_) fun v wa w' hk hx hq=>k v wa w' _ hk hx (fun k h1 h2=>.inr ⟨h1,h2⟩) hq (aj.fh hX hk hx);refine(h wa hk).mono ?_;rintro e w' ⟨v,he,hx,hq⟩;exact⟨v,he,hx,hq⟩
theorem aaa {f:FuncId} {args:Array Value} {v:Value} {N:Value→World→XS→Prop}
  (hf:enters P f=true) (hX: ∀k,X k→k<w.heap.size) (h:Pure P f args v)
  (k: ∀w' X',aj X w X' w'→N v w' X'):eC P R X w m f args N:=by
 refine WK (Q:=fun u _ _=>u=v) hf hX (fun wa _=>(h wa).mono ?_) fun u wa w' X' _ _ _ hq hs=>hq▸k w' X' hs;rintro e w' ⟨he,hx⟩;exact⟨v,he,hx,rfl⟩
theorem xR {f:FuncId} {args:Array Value} {v:Value} {N:Value→World→XS→Prop} (hf: ∀wa,(callFunc f args).run P wa= .ok (.value v) wa)
  (hX: ∀k,X k→k<w.heap.size) (k: ∀w' X',aj X w X' w'→N v w' X'):eC P R X w m f args N:=by
 intro wa hk;unfold jy;rw [hf wa];exact⟨Step.fh (Ext.refl _),k _ _ (aj.fh hX hk (Ext.refl _))⟩
theorem eY {w0:World} {u v:Value} (hs:aj (ba w0) w0 X w) (h:u=v):fin (fun e w'=>e= .returned v∧Ext w0 w') X w u:=
 fun _ hk=>⟨by rw [h],hs.ext hk⟩
variable {P : Program} {R : Ending → World → Prop} {X : XS} {w : World} {m : Bool} {N : Value → Prop}
abbrev ptr (b o:Nat):Value:=.pointer (some ⟨b,o,none⟩)
def Cells (w:World) (X:XS) (b o:Nat) (l:List Value):Prop:=
 X b∧ ∃cs t fr,w.heap[b]? =some (.cells cs t fr)∧ ∀j v,l[j]? =some v→cs[o+j]? =some v
theorem Cells.kp {b o:Nat} {l:List Value} (h:Cells w X b o l) {w':World} (hk:Kp X w w'):Cells w' X b o l:=by
 obtain⟨hx,cs,t,fr,hb,hc⟩:=h;exact⟨hx,cs,t,fr,by rw [hk.block b hx];exact hb,hc⟩
theorem Cells.mono {b o:Nat} {l:List Value} {Y:XS} (h:Cells w X b o l) (hs: ∀k,X k→Y k):Cells w Y b o l:=⟨hs _ h.1,h.2⟩
theorem Cells.since {b o:Nat} {l:List Value} {Y:XS} {w':World} (h:Cells w X b o l) (hs:aj X w Y w'):Cells w' Y b o l:=(h.kp hs.kp).mono hs.sub
theorem Cells.range {b o:Nat} {l:List Value} (h:Cells w X b o l):w.rangeAt b o l:=by
 obtain⟨_,cs,t,fr,hb,hc⟩:=h;intro j v hj;rw [cell_of_row w b (o+j) cs t fr hb];exact hc j v hj
theorem Cells.lt {b o:Nat} {l:List Value} (h:Cells w X b o l):b<w.heap.size:=by
 obtain⟨_,cs,t,fr,hb,_⟩:=h;exact(Array.getElem?_eq_some_iff.1 hb).1
theorem Cells.part {b o:Nat} {l:List Value} (h:Cells w X b o l) (i n:Nat):Cells w X b (o+i) ((l.drop i).take n):=by
 obtain⟨hx,cs,t,fr,hb,hc⟩:=h;refine⟨hx,cs,t,fr,hb,fun j v hj=>?_⟩;rw [kF] at hj;split at hj
 ·rw [List.getElem?_drop] at hj;rw [Nat.add_assoc];exact hc _ v hj
 ·cases hj
theorem ac9 {t:TypeId} {b o:Nat} {v:Value} {l:List Value} (h:Cells w X b o (v::l)) (hi:jP P t=some (false,1)) (k:N v):
  aa P X w (iF t (ptr b o)) N:=by
 refine FK v (fun wa hk=>?_) k;have hc:wa.cell? ⟨b,o,none⟩=some v:=(h.kp hk).range 0 v rfl;unfold jP at hi;split at hi
 ·rename_i d i hu l7;simp only [aB,dg] at hi;have vU:(isAgg t).run P wa= .ok false wa:=by
   cases d<;>simp_all [isAgg,run_underlying hu]
  simp [iF,jO,loadVar,vU,hc]
 ·cases hi
theorem ada {t:TypeId} {b o n:Nat} {l:List Value} (h:Cells w X b o l) (hi:jP P t=some (true,n)) (hn:l.length=n) (k:N (.agg l.toArray)):
  aa P X w (iF t (ptr b o)) N:=by
 refine FK _ (fun wa hk=>?_) k;unfold jP at hi;split at hi
 ·rename_i d i hu l7;simp only [aB,dg] at hi;exact run_loadAt_mid wa b o t l d (h.kp hk).range hu (by cases d<;>simp_all) (by simp [l7,hi.2,hn])
 ·cases hi
theorem EJ {S f fo sz b o:Nat} (h:fieldInfo P S f=some (fo,sz)) (hz:sz≠0) (k:N (ptr b (o+fo))):aa P X w (Instr.fieldAt S (ptr b o) f) N:=
 bX (fun wa=>Mt h hz b o wa) k
theorem adb {t:TypeId} {parts:Array (Nat×Value)} (cells:Array Value) (h:P.built t parts.toList=some cells) (k:N (.agg cells)):
  aa P X w (Instr.build t parts) N:=
 bX (fun wa=>run_build wa t parts cells h) k
theorem ae2 {t ty:TypeId} {s:ByteArray} (ht:P.underlying t=some .string) (k:N (.int .i64 s.size)):aa P X w (kR #[t] ty #[.string s]) N:=
 bX (fun wa=>by simp [kR,run_underlying ht,goInt]) k
def Sl (w:World) (X:XS) (k:Nat) (v:Value) (rows:List (List Value)):Prop:=
 (∀r∈rows,r.length=k)∧rows.length≤2^63-1∧
 ∃base cap,v= .slice base rows.length cap∧(rows≠[]→ ∃b o,base=some ⟨b,o,none⟩∧Cells w X b o rows.flatten)∧
  (base=none→cap=0)∧rows.length≤cap∧cap≤2^63-1
theorem Sl.mono {k:Nat} {v:Value} {rows:List (List Value)} {Y:XS} (h:Sl w X k v rows) (hs: ∀k,X k→Y k):Sl w Y k v rows:=by
 obtain⟨h1,h2,base,cap,hv,hc,hr⟩:=h;exact⟨h1,h2,base,cap,hv,fun cU=>let⟨b,o,hb,jj⟩:=hc cU;⟨b,o,hb,jj.mono hs⟩,hr⟩
theorem Sl.kp {k:Nat} {v:Value} {rows:List (List Value)} {w':World} (h:Sl w X k v rows) (hk:Kp X w w'):Sl w' X k v rows:=by
 obtain⟨h1,h2,base,cap,hv,hc,hr⟩:=h;exact⟨h1,h2,base,cap,hv,fun cU=>let⟨b,o,hb,jj⟩:=hc cU;⟨b,o,hb,jj.kp hk⟩,hr⟩
theorem Sl.since {k:Nat} {v:Value} {rows:List (List Value)} {Y:XS} {w':World} (h:Sl w X k v rows) (hs:aj X w Y w'):Sl w' Y k v rows:=
 (h.kp hs.kp).mono hs.sub
theorem Sl.ba {k:Nat} {v:Value} {rows:List (List Value)} (h:Sl w X k v rows):Sl w (ba w) k v rows:=by
 obtain⟨h1,h2,base,cap,hv,hc,hr⟩:=h;exact⟨h1,h2,base,cap,hv,fun cU=>let⟨b,o,hb,jj⟩:=hc cU;⟨b,o,hb,jj.lt,jj.2⟩,hr⟩
theorem Sl.nil (w:World) (X:XS) (k:Nat):Sl w X k (.slice none 0 0) []:=⟨by simp,by simp,none,0,rfl,by simp,by simp,by simp,by simp⟩
theorem Sl.one {k:Nat} {v:Value} {rows:List (List Value)} (h:Sl w X k v rows):one v=true:=by
 obtain⟨_,_,_,_,rfl,_⟩:=h;rfl
theorem Kh {k:Nat} : ∀{rows:List (List Value)},(∀r∈rows,r.length=k)→ ∀{i:Nat} {r:List Value},rows[i]? =some r→
  (rows.flatten.drop (i*k)).take k=r
 |[],_,i,r,h=>by simp at h
 |x::rest,hl,0,r,h=>by
  simp only [fP,aB] at h;subst h;have:=hl x (by simp);simp [this.symm]
 |x::rest,hl,i+1,r,h=>by
  have hx:=hl x (by simp);rw [cD,List.drop_append,hx,List.drop_eq_nil_of_le (by rw [hx];exact Nat.le_mul_of_pos_left k (Nat.succ_pos i))];have:(i+1)*k-k=i*k:=by rw [Nat.succ_mul];omega
  rw [this,cT];exact Kh (fun r hr=>hl r (by simp [hr])) (by simpa using h)
theorem ae3 {t:TypeId} {xs ys:Array Value} {xo yo:Operand} {b:Bool} (hm:P.eqGuardType P.depth t=false)
  (h: ∀wa,(qI 10000 t (.agg xs) (.agg ys)).run P wa= .ok b wa) (k:N (.bool b)):aa P X w (aJ .eql t xo yo (.agg xs) (.agg ys)) N:=by
 refine bX (fun wa=>?_) k;simp [aJ,run_eqGuard_agg wa .eql t xo yo xs ys hm,run_eql_struct,h]
theorem ae4 {t:TypeId} {xs ys:Array Value} {xo yo:Operand} {b:Bool} (hm:P.eqGuardType P.depth t=false)
  (h: ∀wa,(qI 10000 t (.agg xs) (.agg ys)).run P wa= .ok b wa) (k:N (.bool (!b))):aa P X w (aJ .neq t xo yo (.agg xs) (.agg ys)) N:=by
 refine bX (fun wa=>?_) k;simp [aJ,run_eqGuard_agg wa .neq t xo yo xs ys hm,binOp,Op.equal,Op.maxDepth,h]
theorem wrap_i64 {a:Int} (h1: -(2^63)≤a) (h2:a<2^63):IntKind.i64.wrap a=a:=by
 simp only [IntKind.wrap];first
  |omega
  |(simp [IntKind.bits,IntKind.signed];omega)
variable {P : Program} {R : Ending → World → Prop} {X : XS} {w : World} {m : Bool}
structure Grown (X:XS) (w:World) (X':XS) (w':World) (row:Option Nat):Prop where
 os:w'.os=w.os
 tape:w'.tape=w.tape
 output:w'.output=w.output
 size:w.heap.size≤w'.heap.size
 block: ∀k,X k→some k≠row→w'.heap[k]? =w.heap[k]?
 sub: ∀k,X k→X' k
 has: ∀k,X' k→k<w'.heap.size
theorem aj.grown {X0 Y:XS} {w0 w':World} {row:Option Nat} (h:aj X0 w0 X w) (g:Grown X w Y w' row) (hr: ∀k,X0 k→some k≠row):aj X0 w0 Y w':=
 ⟨⟨g.os.trans h.kp.os,g.tape.trans h.kp.tape,g.output.trans h.kp.output,ah h.kp.size g.size,
  fun k hk=>(g.block k (h.sub k hk) (hr k hk)).trans (h.kp.block k hk)⟩,fun k hk=>g.sub k (h.sub k hk),g.has⟩
theorem Grown.since {Y:XS} {w':World} {row:Option Nat} {F:XS} (g:Grown X w Y w' row) (hf: ∀k,F k→X k) (hr: ∀k,F k→some k≠row):aj F w Y w':=
 ⟨⟨g.os,g.tape,g.output,g.size,fun k hk=>g.block k (hf k hk) (hr k hk)⟩,fun k hk=>g.sub k (hf k hk),g.has⟩
def Own (w:World) (X:XS) (lo e k:Nat) (v:Value) (rows:List (List Value)):Prop:=
 (∀r∈rows,r.length=k)∧w.ownsRow lo e k v rows.length rows.flatten∧ ∀g,v.ownBlock=some g→X g
theorem Own.nil (w:World) (X:XS) (lo e k:Nat):Own w X lo e k (.slice none 0 0) []:=⟨by simp,World.ownsRow_nil w lo e k,by simp [gW]⟩
theorem Own.sl {lo e k:Nat} {v:Value} {rows:List (List Value)} (h:Own w X lo e k v rows):Sl w X k v rows:=by
 obtain⟨h1,h2,h3⟩:=h;rcases h2.2 with⟨rfl,hn⟩|⟨g,cap,cur,rfl,hb,hg,ta,lA,jj,ht⟩
 ·have:rows=[]:=fA hn;subst this;exact Sl.nil w X k
 ·have hm:cap≤2^63-1:=lA;refine⟨h1,ah ta hm,_,cap,rfl,fun _=>⟨g,0,rfl,h3 g rfl,cur,e,(0,0),hg,fun j v hj=>?_⟩,by simp,ta,hm⟩;rw [←ht,kF] at hj;split at hj
  ·simpa using hj
  ·cases hj
theorem Own.kp {lo e k:Nat} {v:Value} {rows:List (List Value)} {w':World} (h:Own w X lo e k v rows) (hk:Kp X w w'):Own w' X lo e k v rows:=by
 obtain⟨h1,h2,h3⟩:=h;refine⟨h1,⟨h2.1,?_⟩,h3⟩;rcases h2.2 with h|⟨g,cap,cur,rfl,hb,hg,hr⟩
 ·exact .inl h
 ·exact .inr ⟨g,cap,cur,rfl,hb,by rw [hk.block g (h3 g rfl)];exact hg,hr⟩
theorem Own.mono {lo e k:Nat} {v:Value} {rows:List (List Value)} {Y:XS} (h:Own w X lo e k v rows) (hs: ∀k,X k→Y k):Own w Y lo e k v rows:=
 ⟨h.1,h.2.1,fun g hg=>hs g (h.2.2 g hg)⟩
theorem Own.since {lo e k:Nat} {v:Value} {rows:List (List Value)} {Y:XS} {w':World} (h:Own w X lo e k v rows) (hs:aj X w Y w'):Own w' Y lo e k v rows:=
 (h.kp hs.kp).mono hs.sub
theorem Own.low {lo lo' e k:Nat} {v:Value} {rows:List (List Value)} (h:Own w X lo e k v rows) (hl:lo'≤lo):Own w X lo' e k v rows:=by
 obtain⟨h1,h2,h3⟩:=h;refine⟨h1,⟨h2.1,?_⟩,h3⟩;rcases h2.2 with h|⟨g,cap,cur,rfl,hb,hr⟩
 ·exact .inl h
 ·exact .inr ⟨g,cap,cur,rfl,ah hl hb,hr⟩
theorem Own.ge {lo e k:Nat} {v:Value} {rows:List (List Value)} (h:Own w X lo e k v rows) {g:Nat} (hg:v.ownBlock=some g):lo≤g∧g<w.heap.size:=h.2.1.lt g hg
theorem Own.tight {lo e k:Nat} {v:Value} {rows:List (List Value)} (h:Own w X lo e k v rows):Own w (fun g=>lo≤g∧g<w.heap.size) lo e k v rows:=
 ⟨h.1,h.2.1,fun _ hg=>h.ge hg⟩
theorem tJ {k:Nat} : ∀{rows:List (List Value)},(∀r∈rows,r.length=k)→rows.flatten.length=rows.length*k
 |[],_=>by simp
 |r::rs,h=>by
  rw [cD,ae,h r (by simp),tJ fun r hr=>h r (by simp [hr]),aY,Nat.succ_mul,Nat.add_comm]
theorem C6 {t e len:Nat} {parts:Array (Nat×Value)} {k:Nat} {rows:List (List Value)} {N:Value→World→XS→Prop} (cells:Array Value) (z:Value)
  (hX: ∀k,X k→k<w.heap.size) (hu:P.underlying t=some (.slice e)) (hz:(P.info? e).bind (fun i=>i.zero.map fun z=>(i.size,z))=some (k,z))
  (Ki:0<len*k) (PT:len*k≤2^24)
  (h:oC (fun i=>some (i*k,k)) ((xQ (len*k)).map (z.cells[· % z.cells.size]!)) parts.toList=some cells)
  (Hc: ∀r∈rows,r.length=k) (hlen:rows.length=len) (hc:cells.toList=rows.flatten)
  (n: ∀v w' X',aj X w X' w'→Own w' X' w.heap.size e k v rows→N v w' X'):eV P R X w m (iD t len parts) N:=by
 intro wa hk;cases hq:P.info? e with
 |none=>simp [hq] at hz
 |some ie=>
  cases qf:ie.zero with
  |none=>simp [hq,qf] at hz
  |some z'=>
   simp only [hq,qf,cN,bM,aB,dg] at hz;obtain⟨rfl,rfl⟩:=hz;have hr:=run_buildSlice (P:=P) wa t e len parts cells ie z' hu hq qf zQ zQ h;unfold jy;simp only [vS,bO,hr,bt,ck];have hx:Ext wa (wa.alloc (.cells cells e)):=Ext.alloc _ _;have jj:cells.size=len*ie.size:=by
    have:=congrArg List.length hc;simp only [dC] at this;rw [this,tJ Hc,hlen]
   have ake:0<ie.size:=Nat.pos_of_ne_zero fun e=>by simp [e] at Ki
   have hle:len≤2^24:=ah (Nat.le_mul_of_pos_right len ake) PT;have Ik:=wS (e:=e) (base:=w.heap.size) (size:=ie.size) wa cells len hk.size (by simp only [maxLen];omega) jj;refine⟨Step.fh hx,n _ _ _ (aj.fh hX hk hx) ⟨Hc,by rw [hlen,←hc];exact Ik,fun g hg=>?_⟩⟩;simp only [gW,aB] at hg;subst hg;exact .inr ⟨bf _,by simp⟩
theorem ade {t e k:Nat} {N:Value→World→XS→Prop} (hX: ∀k,X k→k<w.heap.size) (hu:P.underlying t=some (.slice e)) (hz:(P.info? e).map (·.size)=some k)
  (n: ∀v w' X',aj X w X' w'→Own w' X' w.heap.size e k v []→N v w' X'):eV P R X w m (iD t 0 #[]) N:=by
 intro wa hk;cases hq:P.info? e with
 |none=>simp [hq] at hz
 |some ie=>
  unfold jy;have hr:(iD t 0 #[]).run P wa= .ok (.slice (some ⟨wa.heap.size,0,none⟩) 0 0) (wa.alloc (.cells #[] e)):=by
   simp [iD,run_underlying hu,sizeOf,typeInfo,hq,oC,newRow];have tw: ∀f:Nat→Value,Array.map f (xQ 0)= #[]:=fun f=>Array.eq_empty_of_size_eq_zero (by simp);rw [tw]
  simp only [vS,bO,hr,bt,ck];have hx:Ext wa (wa.alloc (.cells #[] e)):=Ext.alloc _ _;have Ik:=wS (e:=e) (base:=w.heap.size) (size:=k) wa #[] 0 hk.size (by simp [maxLen]) (by simp);refine⟨Step.fh hx,n _ _ _ (aj.fh hX hk hx) ⟨by simp,Ik,fun g hg=>?_⟩⟩;simp only [gW,aB] at hg;subst hg;exact .inr ⟨bf _,by simp⟩
theorem Sl.src {k:Nat} {v:Value} {rows:List (List Value)} (h:Sl w X k v rows):
  v= .slice none 0 0∧rows=[]∨ ∃a cap,v= .slice (some a) rows.length cap∧ ∀j u,rows.flatten[j]? =some u→w.cell? (a.add j)=some u:=by
 obtain⟨h1,h2,base,cap,rfl,hc,hn,hle,_⟩:=h;cases base with
 |none=>
  cases rows with
  |nil=>exact .inl ⟨by simp [hn rfl],rfl⟩
  |cons r rs=>obtain⟨_,_,hh,_⟩:=hc (by simp);cases hh
 |some a=>
  refine .inr ⟨a,cap,rfl,fun j u hj=>?_⟩;cases rows with
  |nil=>simp at hj
  |cons r rs=>
   obtain⟨b,o,hb,jj⟩:=hc (by simp);cases hb;rw [vT];exact jj.range j u hj
theorem Ax {t ty e k bytes lo:Nat} {v s:Value} {rows eo:List (List Value)} {N:Value→World→XS→Prop} (z:Value)
  (hu:P.underlying t=some (.slice e)) (hi:(P.info? e).bind (fun i=>i.zero.map fun z=>(i.size,i.bytes,z))=some (k,bytes,z)) (vu:z.cells.size=k) (jQ:0<k)
  (hX: ∀k,X k→k<w.heap.size) (fv:lo≤w.heap.size) (own:Own w X lo e k v rows) (src:Sl w X k s eo) (h1: ∀r∈eo,∀u∈r,one u=true)
  (hb:(rows.length+eo.length)*bytes≤140737488355328) (hl:rows.length+eo.length≤2^63-1)
  (n: ∀v' w' X',Grown X w X' w' v.ownBlock→Own w' X' lo e k v' (rows++eo)→(v'.ownBlock=v.ownBlock∨ ∃g,v'.ownBlock=some g∧w.heap.size≤g)→N v' w' X'):
  eV P R X w true (eu #[t,t] ty #[v,s]) N:=by
 intro wa hk;have own:=own.kp hk;have src:=src.kp hk;cases hq:P.info? e with
 |none=>simp [hq] at hi
 |some ie=>
  cases qf:ie.zero with
  |none=>simp [hq,qf] at hi
  |some z'=>
   simp only [hq,qf,cN,bM,aB,dg] at hi;obtain⟨rfl,rfl,rfl⟩:=hi;unfold jy;rcases src.src with⟨rfl,rfl⟩|⟨a,cap,rfl,DS⟩
   ·have hr:=run_append_owned_none (P:=P) (w:=wa) lo t ty e ie ie.size hu hq v rows.length rows.flatten own.2.1;simp only [vS,bO,hr,bt,ck];have hx:=Ext.refl wa;have hs:=aj.fh hX hk hx;refine⟨Step.fh hx,n _ _ _ ⟨hs.kp.os,hs.kp.tape,hs.kp.output,hs.kp.size,fun k h _=>hs.kp.block k h,hs.sub,hs.has⟩ ?_ (.inl rfl)⟩;rw [bZ];exact own.mono (fun k h=>Or.inl h)
   ·have sV:eo.flatten.length=eo.length*ie.size:=tJ src.1;obtain⟨v',w',hr,Ik,hg,_,fm⟩:=run_append_own_at (P:=P) wa lo t ty e ie z' ie.size ie.bytes hu hq qf rfl rfl vu jQ v rows.length rows.flatten own.2.1
     a eo.length cap eo.flatten sV DS (fun u hu=>by
      obtain⟨r,hr,hur⟩:=List.mem_flatten.1 hu;rw [←ON];exact h1 r hr u hur) hl hb (ah fv hk.size)
    simp only [vS,bO,hr,bt,ck];have hgb: ∀k,k<wa.heap.size→some k≠v.ownBlock→w'.heap[k]? =wa.heap[k]? :=hg.block;refine⟨⟨hg.os,hg.tape,hg.output,hg.size,fun k lO oH=>hg.block k lO fun e=>oH (own.2.2 k e.symm)⟩,n _ _ _ ?_ ⟨?_,?_,?_⟩ ?_⟩
    ·exact⟨hg.os.trans hk.os,hg.tape.trans hk.tape,hg.output.trans hk.output,ah hk.size hg.size,
      fun k hx cU=>(hg.block k (aK (hX k hx) hk.size) cU).trans (hk.block k hx),fun k h=>.inl h,
      fun k h=>h.elim (fun h=>aK (hX k h) (ah hk.size hg.size)) (fun h=>h.2)⟩
    ·intro r hr;rcases List.mem_append.1 hr with h|h
     ·exact own.1 r h
     ·exact src.1 r h
    ·rw [ae,List.flatten_append];exact Ik
    ·intro g MT;rcases fm with h|h
     ·exact .inl (own.2.2 g (h▸MT))
     ·rw [MT] at h;cases h;exact .inr ⟨bf _,(Ik.lt _ MT).2⟩
    ·rcases fm with h|h
     ·exact .inl h
     ·exact .inr ⟨_,h,hk.size⟩
theorem N8 {t e:TypeId} (ht:P.underlying t=some (.slice e)) (d:Nat) (base:Option Addr) (n c:Nat) (w:World):
  (qI (d+1) t (.slice base n c) (.slice none 0 0)).run P w= .ok base.isNone w:=by
 cases base<;>simp [qI,run_underlying ht]
theorem WL {t e:TypeId} {xo yo:Operand} {base:Option Addr} {n c:Nat} {N:Value→Prop} (ht:P.underlying t=some (.slice e)) (h:N (.bool base.isNone)):
  aa P X w (aJ .eql t xo yo (.slice base n c) (.slice none 0 0)) N:=by
 refine bX (fun wa=>?_) h;have:(Op.equal t (.slice base n c) (.slice none 0 0)).run P wa= .ok base.isNone wa:=N8 ht 9999 base n c wa;simp [aJ,eqGuard,binOp,this]
def LC (P:Program):List Field→Nat→Bool
 |[],_=>true
 |f::r,i=>f.name != "_" &&(match P.underlying f.type with|some (.int _)=>true|_=>false)&&f.offset==i&&LC P r (i+1)
theorem Bu (w:World) (d:Nat) (as bs:List Int): ∀(fs:List Field) (i:Nat),LC P fs i=true→as.length=i+fs.length→bs.length=i+fs.length→
  (tc (d+1) (as.map (aC .i64)).toArray (bs.map (aC .i64)).toArray fs).run P w= .ok (decide (as.drop i=bs.drop i)) w
 |[],i,_,ha,hb=>by
  simp only [List.length_nil,Nat.add_zero] at ha hb;rw [gL zQ,gL zQ];simp [tc]
 |f::r,i,h,ha,hb=>by
  simp only [LC,aA,bne_iff_ne,ne_eq,beq_iff_eq] at h;obtain⟨⟨⟨hn,hu⟩,ho⟩,hr⟩:=h;simp only [aY] at ha hb;have hia:i<as.length:=by omega
  have hib:i<bs.length:=by omega
  cases hd:P.underlying f.type with
  |none=>simp [hd] at hu
  |some ty=>
   cases ty<;>simp only [hd,bu] at hu
   rename_i q;have vU:(isAgg f.type).run P w= .ok false w:=by simp [isAgg,run_underlying hd]
   have WM:(part f.type (as.map (aC .i64)).toArray f.offset).run P w= .ok (.int .i64 as[i]) w:=by
    simp [part,vU,ho,hia]
   have Ib:(part f.type (bs.map (aC .i64)).toArray f.offset).run P w= .ok (.int .i64 bs[i]) w:=by
    simp [part,vU,ho,hib]
   have ih:=Bu w d as bs r (i+1) hr zQ zQ;have hk:(as.drop i=bs.drop i)↔(as[i]=bs[i]∧as.drop (i+1)=bs.drop (i+1)):=by
    rw [jN hia,jN hib,List.cons.injEq]
   simp only [hk];clear hk;by_cases he:as[i]=bs[i]
   ·simp [tc,hn,WM,Ib,run_equalIn_int w d f.type .i64 q _ _ hd,he,ih]
   ·simp [tc,hn,WM,Ib,run_equalIn_int w d f.type .i64 q _ _ hd,he]
def iZ (P:Program) (t n:Nat):Bool:=match P.underlying t with
 |some (.struct fs)=>fs.toList.length==n&&LC P fs.toList 0&&!P.stoodInHeld t&&!P.eqGuardType P.depth t
 |_=>false
theorem zu {t n:Nat} (h:iZ P t n=true) (as bs:List Int) (ha:as.length=n) (hb:bs.length=n) (w:World):
  (qI 10000 t (.agg (as.map (aC .i64)).toArray) (.agg (bs.map (aC .i64)).toArray)).run P w= .ok (decide (as=bs)) w:=by
 unfold iZ at h;split at h
 ·rename_i fs hu;simp only [aA,beq_iff_eq,bV] at h;have hf:P.fieldsOf t=fs:=by simp [Program.fieldsOf,hu]
  rw [run_equalIn_struct w 9999 t _ _ (by rw [hf];exact hu) h.1.2,hf];have:=Bu (P:=P) w 9998 as bs fs.toList 0 h.1.1.2 (by rw [ha,h.1.1.1];omega) (by rw [hb,h.1.1.1];omega);simpa using this
 ·cases h
theorem DT {t n:Nat} (h:iZ P t n=true):P.eqGuardType P.depth t=false:=by
 unfold iZ at h;split at h
 ·simp only [aA,bV] at h;exact h.2
 ·cases h
theorem ae5 {N:Value→Prop} {t:TypeId} {a b c a' b' c':Int} {xo yo:Operand} (h:iZ P t 3=true) (k:N (.bool (decide (a=a'∧b=b'∧c=c')))):
  aa P X w (aJ .eql t xo yo (.agg #[.int .i64 a,.int .i64 b,.int .i64 c]) (.agg #[.int .i64 a',.int .i64 b',.int .i64 c'])) N:=
 ae3 (b:=decide (a=a'∧b=b'∧c=c')) (DT h) (fun wa=>by
  have:=zu h [a,b,c] [a',b',c'] rfl rfl wa;simpa using this) k
theorem ae6 {N:Value→Prop} {t:TypeId} {a b c a' b' c':Int} {xo yo:Operand} (h:iZ P t 3=true) (k:N (.bool (!decide (a=a'∧b=b'∧c=c')))):
  aa P X w (aJ .neq t xo yo (.agg #[.int .i64 a,.int .i64 b,.int .i64 c]) (.agg #[.int .i64 a',.int .i64 b',.int .i64 c'])) N:=
 ae4 (b:=decide (a=a'∧b=b'∧c=c')) (DT h) (fun wa=>by
  have:=zu h [a,b,c] [a',b',c'] rfl rfl wa;simpa using this) k
theorem aab {t:TypeId} {v:Value} {N:Value→World→XS→Prop} (hX: ∀k,X k→k<w.heap.size)
  (n: ∀b w' X',w.heap.size≤b→aj X w X' w'→X' b→w'.heap[b]? =some (.cells v.cells.toList.toArray t (0,0))→N (ptr b 0) w' X'):eV P R X w m (dx t v) N:=by
 intro wa hk;unfold jy;have hr:(dx t v).run P wa= .ok (ptr wa.heap.size 0) (wa.alloc (.cells v.cells t)):=by simp [dx,newVar,newRow]
 simp only [vS,bO,hr,bt,ck];have hx:Ext wa (wa.alloc (.cells v.cells t)):=Ext.alloc _ _;exact⟨Step.fh hx,n _ _ _ hk.size (aj.fh hX hk hx) (.inr ⟨bf _,by simp⟩) (by simpa using heap_alloc_new wa _)⟩
def bH (w:World) (X:XS) (b:Nat) (cs:List Value) (ty:TypeId):Prop:=X b∧w.heap[b]? =some (.cells cs.toArray ty (0,0))
theorem bH.kp {b:Nat} {cs:List Value} {ty:TypeId} {w':World} (h:bH w X b cs ty) (hk:Kp X w w'):bH w' X b cs ty:=⟨h.1,by rw [hk.block b h.1];exact h.2⟩
theorem bH.mono {b:Nat} {cs:List Value} {ty:TypeId} {Y:XS} (h:bH w X b cs ty) (hs: ∀k,X k→Y k):bH w Y b cs ty:=⟨hs _ h.1,h.2⟩
theorem bH.since {b:Nat} {cs:List Value} {ty:TypeId} {Y:XS} {w':World} (h:bH w X b cs ty) (hs:aj X w Y w'):bH w' Y b cs ty:=(h.kp hs.kp).mono hs.sub
theorem bH.cells {b:Nat} {cs:List Value} {ty:TypeId} (h:bH w X b cs ty):Cells w X b 0 cs:=⟨h.1,_,_,_,h.2,fun j v hj=>by simpa using hj⟩
theorem ae7 {t sz b o:Nat} {cs:List Value} {ty:TypeId} {v:Value} {N:Value→World→XS→Prop} (h:bH w X b cs ty) (ht:(P.info? t).map (·.size)=some sz)
  (hl:o+sz≤cs.length) (hv:v.cells.size=sz) (h1:v.cells.toList.all one=true) (hX: ∀k,X k→k<w.heap.size)
  (n: ∀w' X',Grown X w X' w' (some b)→bH w' X' b (b8 cs o v.cells.toList) ty→N undef w' X'):eU P R X w true (Instr.storeAt t (ptr b o) v) N:=by
 intro wa hk;have hb:=(h.kp hk).2;unfold jy;have hr:=Mu (P:=P) ht hb o (by simpa using hl) v hv h1;simp only [ed] at hr;simp only [uS,bO,hr,bt,ck];have dU:(wa.setRow b (b8 cs o v.cells.toList).toArray).heap.size=wa.heap.size:=by simp
 refine⟨⟨rfl,rfl,rfl,by rw [dU];exact bf _,fun k _ hx=>setRow_other wa b k _ fun e=>hx (e▸h.1)⟩,n _ _ ?_ ⟨.inl h.1,setRow_heap wa b _ _ ty _ hb⟩⟩;refine⟨hk.os,hk.tape,hk.output,by rw [dU];exact hk.size,fun k hx cU=>?_,fun k h=>.inl h,fun k h=>?_⟩
 ·rw [setRow_other wa b k _ (fun e=>cU (by rw [e])),hk.block k hx]
 ·rw [dU];exact h.elim (fun h=>aK (hX k h) hk.size) (fun h=>by have:=h.2;rwa [dU] at this)
variable {P : Program} {α : Type}
end Go.dL
set_option linter.unusedSectionVars false
set_option linter.unusedSimpArgs false
namespace Go.dL
variable {P : Program} {R : Ending → World → Prop} {X : XS} {w : World} {m : Bool} {κ : Type} [DecidableEq κ]
abbrev jL (κ:Type):=κ×Value×Nat
def pC (kv:κ→Value) (x:jL κ):MapEntry:=⟨kv x.1,x.2.1,x.2.2⟩
def rQ (k:κ):List (jL κ)→Nat→Option (Nat×Value)
 |[],_=>none
 |x::r,i=>if k=x.1 then some (i,x.2.1)else rQ k r (i+1)
structure xS (P:Program) (kt:TypeId) (kv:κ→Value):Prop where
 bq: ∀e k w,(iC e 10000 kt (kv k)).run P w= .ok () w
 find: ∀k (l:List (jL κ)) w,(qk kt (kv k) (l.map (pC kv))).run P w= .ok (rQ k l 0) w
 same: ∀k,lh 10000 (kv k) (kv k)=true
theorem Kj (a b:ByteArray):(a==b)=decide (a=b):=by
 rw [beq_toListBytes];have:a.toList=b.toList↔a=b:=by
  constructor
  ·intro h;rw [ey,ey] at h;obtain⟨⟨x⟩⟩:=a;obtain⟨⟨y⟩⟩:=b;simpa using h
  ·intro h;rw [h]
 by_cases h:a=b
 ·simp [h]
 ·simp [h,this]
theorem IH {kt:TypeId} (h:P.underlying kt=some .string) (e:Bool) (n:Nat) (k:ByteArray) (w:World):
  (iC e (n+1) kt (.string k)).run P w= .ok () w:=by simp [iC,run_underlying h]
theorem N9 {kt:TypeId} {fs:Array Field} (h:P.underlying kt=some (.struct fs)) (e:Bool) (n:Nat) (cs:Array Value) (w:World)
  (hr:(forIn fs lj fun f (_:PUnit)=>(if f.name≠ "_" then(do
    let v←part f.type cs f.offset
    iC e n f.type v
    pure (oX lj))
   else pure (oX lj):Sem (ForInStep PUnit))).run P w= .ok lj w):
  (iC e (n+1) kt (.agg cs)).run P w= .ok () w:=by
 simp only [iC,bO,run_underlying h,bt];exact(congrArg (fun r=>r.andThen fun _ w'=>sA P (Pure.pure ()) w') hr).trans rfl
theorem rz {kt:TypeId} (h:P.underlying kt=some .string):xS P kt (fun s:ByteArray=>Value.string s) where
 bq e k w:=IH h e 9999 k w
 find k l w:=by
  have: ∀(l:List (jL ByteArray)) (i:Nat),nE .string (.string k) (l.map (pC fun s=>Value.string s)) i=some (rQ k l i):=by
   intro l
   induction l with
   |nil=>intro i;rfl
   |cons x r ih=>
    intro i;by_cases hk:k=x.1
    ·simp [nE,pC,uQ,rQ,hk,Kj]
    ·simp [nE,pC,uQ,rQ,hk,ih,Kj]
  simp [qk,run_underlying h,this]
 same k:=by simp [lh,Kj]
theorem Bv (w:World) (e:Bool) (d:Nat) (as:List Int): ∀(fs:List Field) (i:Nat),LC P fs i=true→as.length=i+fs.length→
  (forIn fs lj fun f (_:PUnit)=>(if f.name≠ "_" then(do
    let v←part f.type (as.map (aC .i64)).toArray f.offset
    iC e (d+1) f.type v
    pure (oX lj))
   else pure (oX lj):Sem (ForInStep PUnit))).run P w= .ok lj w
 |[],i,_,_=>by simp
 |f::r,i,h,ha=>by
  simp only [LC,aA,bne_iff_ne,ne_eq,beq_iff_eq] at h;obtain⟨⟨⟨hn,hu⟩,ho⟩,hr⟩:=h;simp only [aY] at ha;have hia:i<as.length:=by omega
  cases hd:P.underlying f.type with
  |none=>simp [hd] at hu
  |some ty=>
   cases ty<;>simp only [hd,bu] at hu
   rename_i q;have vU:(isAgg f.type).run P w= .ok false w:=by simp [isAgg,run_underlying hd]
   have WM:(part f.type (as.map (aC .i64)).toArray f.offset).run P w= .ok (.int .i64 as[i]) w:=by
    simp [part,vU,ho,hia]
   have hck:(iC e (d+1) f.type (.int .i64 as[i])).run P w= .ok () w:=by
    simp [iC,run_underlying hd]
   have ih:=Bv w e d as r (i+1) hr zQ;rw [List.forIn_cons];simp only [ne_eq,hn,not_false_eq_true,if_true,bO,WM,hck,bt,ck];exact ih
theorem Tr (d:Nat) (as:List Int):lh (d+1) (.agg (as.map (aC .i64)).toArray) (.agg (as.map (aC .i64)).toArray)=true:=by
 have: ∀l:List Int,((l.map (aC .i64)).zip (l.map (aC .i64))).all (fun (x,y)=>lh d x y)=true:=by
  intro l
  induction l with
  |nil=>rfl
  |cons x r ih=>
   simp only [bc,List.zip_cons_cons,List.all_cons,ih,Bool.and_true];cases d<;>simp [lh]
 simp [lh,this]
theorem ae8 {kt n:Nat} (h:iZ P kt n=true) (as:κ→List Int) (hlen: ∀k,(as k).length=n) (alN: ∀a b,as a=as b→a=b):
  xS P kt (fun k:κ=>aF ((as k).map (aC .i64)).toArray) where
 bq e k w:=by
  have h0:=h;unfold iZ at h;split at h
  ·rename_i fs hu;simp only [aA,beq_iff_eq,bV] at h;have hr:=Bv (P:=P) w e 9998 (as k) fs.toList 0 h.1.1.2 (by rw [hlen,h.1.1.1];omega);rw [Array.forIn_toList] at hr;exact N9 hu e 9999 _ w hr
  ·cases h
 find k l w:=by
  have h0:=h;unfold iZ at h0;split at h0
  ·rename_i fs hu;have alO: ∀(l:List (jL κ)) (i:Nat),(rP kt (.agg ((as k).map (aC .i64)).toArray) (l.map (pC fun k=>aF ((as k).map (aC .i64)).toArray)) i).run P w= .ok (rQ k l i) w:=by
    intro l
    induction l with
    |nil=>intro i;simp [rP,rQ]
    |cons x r ih=>
     intro i;have he:=zu h (as k) (as x.1) (hlen _) (hlen _) w;simp only [bc,rP,pC,Op.equal,Op.maxDepth,bO,he,bt,rQ];by_cases hk:k=x.1
     ·subst hk;simp
     ·have: ¬as k=as x.1:=fun e=>hk (alN _ _ e);simp only [this,decide_false,bu,if_false,hk];exact ih _
   cases l with
   |nil=>simp [qk,run_underlying hu,nE,rQ]
   |cons x r=>
    have:=alO (x::r) 0;simp only [qk,bO,run_underlying hu,bt];simp only [bc,nE,pC,uQ] at this⊢;exact this
  ·cases h0
 same k:=Tr 9999 (as k)
def mj (w:World) (X:XS) (b:Nat) (kv:κ→Value) (es:List (jL κ)) (clock:Nat):Prop:=
 X b∧w.heap[b]? =some (.map (es.map (pC kv)).toArray clock)∧(es.map (·.1)).Nodup∧(es.map (·.2.2)).Nodup∧ ∀x∈es,x.2.2<clock
theorem mj.kp {b:Nat} {kv:κ→Value} {es:List (jL κ)} {c:Nat} {w':World} (h:mj w X b kv es c) (hk:Kp X w w'):mj w' X b kv es c:=
 ⟨h.1,by rw [hk.block b h.1];exact h.2.1,h.2.2⟩
theorem mj.mono {b:Nat} {kv:κ→Value} {es:List (jL κ)} {c:Nat} {Y:XS} (h:mj w X b kv es c) (hs: ∀k,X k→Y k):mj w Y b kv es c:=⟨hs _ h.1,h.2⟩
theorem mj.since {b:Nat} {kv:κ→Value} {es:List (jL κ)} {c:Nat} {Y:XS} {w':World} (h:mj w X b kv es c) (hs:aj X w Y w'):mj w' Y b kv es c:=
 (h.kp hs.kp).mono hs.sub
def EK (k:κ) (es:List (jL κ)):Option Value:=(es.find? fun x=>decide (x.1=k)).map (·.2.1)
theorem Oa (k:κ): ∀(es:List (jL κ)) (i:Nat),rQ k es i=(es.findIdx? fun x=>decide (x.1=k)).bind fun j=>(es[j]?).map fun x=>(i+j,x.2.1)
 |[],i=>rfl
 |x::r,i=>by
  unfold rQ;by_cases h:k=x.1
  ·simp [h,iG]
  ·rw [if_neg h,Oa k r (i+1)];have h': ¬x.1=k:=fun e=>h e.symm;simp only [iG,h',decide_false,bu,if_false];cases r.findIdx? fun x=>decide (x.1=k)with
   |none=>rfl
   |some j=>simp [Nat.add_assoc,Nat.add_comm 1 j]
theorem S8 (k:κ): ∀(es:List (jL κ)) (i:Nat),(rQ k es i).map (·.2)=EK k es
 |[],i=>rfl
 |x::r,i=>by
  unfold rQ EK;by_cases h:k=x.1
  ·simp [h]
  ·have h': ¬x.1=k:=fun e=>h e.symm;rw [if_neg h,S8 k r (i+1)];simp [EK,h']
theorem aby {t kt et b c:Nat} {kv:κ→Value} {es:List (jL κ)} {k:κ} {N:Value→Prop} (z:Value) (h:mj w X b kv es c) (K:xS P kt kv)
  (ht:P.underlying t=some (.map kt et)) (hz:(P.info? et).bind (·.zero)=some z)
  (n:N (.tuple #[(EK k es).getD z,.bool (EK k es).isSome])):aa P X w (Instr.lookup t (.map (some b)) (kv k) true) N:=by
 refine FK _ (fun wa hk=>?_) n;have hb:=(h.kp hk).2.1;cases hi:P.info? et with
 |none=>simp [hi] at hz
 |some inf=>
  have zS:inf.zero=some z:=by simpa [hi] using hz
  have hg:=S8 k es 0;simp only [Instr.lookup,bO,run_underlying ht,bt,getObj,sA,hb,K.bq,fG,K.find];cases hf:rQ k es 0 with
  |none=>
   rw [hf] at hg;simp only [Option.map_none] at hg;simp [zeroValue,typeInfo,hi,zS,←hg,K.find,hf]
  |some r=>
   rw [hf] at hg;simp only [bM] at hg;simp [←hg,K.find,hf]
theorem abz {t:TypeId} {kv:κ→Value} {N:Value→World→XS→Prop} (hX: ∀k,X k→k<w.heap.size)
  (n: ∀b w' X',w.heap.size≤b→aj X w X' w'→mj w' X' b kv [] 0→N (.map (some b)) w' X'):eV P R X w m (uR t none) N:=by
 intro wa hk;unfold jy;have hr:(uR t none).run P wa= .ok (.map (some wa.heap.size)) (wa.alloc (.map #[] 0)):=by simp [uR]
 simp only [vS,bO,hr,bt,ck];have hx:Ext wa (wa.alloc (.map #[] 0)):=Ext.alloc _ _;exact⟨Step.fh hx,n _ _ _ hk.size (aj.fh hX hk hx) ⟨.inr ⟨bf _,by simp⟩,by simpa using heap_alloc_new wa _,by simp,by simp,by simp⟩⟩
open Go.ChangeMaps (setBlock)
theorem Kk {b:Nat} {o:Obj} {wa:World} (hX: ∀k,X k→k<w.heap.size) (hk:Kp X w wa):Grown X w (grow X wa (setBlock wa b o)) (setBlock wa b o) (some b):=by
 have hs:(setBlock wa b o).heap.size=wa.heap.size:=by simp [setBlock]
 refine⟨hk.os,hk.tape,hk.output,by rw [hs];exact hk.size,fun k hx cU=>?_,fun k h=>.inl h,fun k h=>?_⟩
 ·rw [←hk.block k hx];have:b≠k:=fun e=>cU (by rw [e]);simp [setBlock,dQ,this]
 ·rw [hs];exact h.elim (fun h=>aK (hX k h) hk.size) (fun h=>by have:=h.2;rwa [hs] at this)
theorem WN {b:Nat} {o:Obj} {wa:World} (hb:X b):Fr X wa (setBlock wa b o):=by
 refine⟨rfl,rfl,rfl,by simp [setBlock],fun k _ hx=>?_⟩;have:b≠k:=fun e=>hx (e▸hb);simp [setBlock,dQ,this]
theorem PU {b:Nat} {o:Obj} {wa:World} (hb:b<wa.heap.size):(setBlock wa b o).heap[b]? =some o:=by
 simp [setBlock,dQ,hb]
theorem run_setObj_map {wa:World} {b:Nat} {es:Array MapEntry} {c:Nat} (hb:wa.heap[b]? =some (.map es c)) (o:Obj):(setObj b o).run P wa= .ok () (setBlock wa b o):=by
 simp [setObj,sA,hb,setBlock]
def C7 (k:κ) (v:Value) (c:Nat) (es:List (jL κ)):List (jL κ)×Nat:=
 match es.findIdx? fun x=>decide (x.1=k)with
 |some i=>(es.modify i fun x=>(x.1,v,x.2.2),c)
 |none=>(es++[(k,v,c)],c+1)
theorem zv {β γ:Type} (g:β→γ) (f:β→β) (hf: ∀x,g (f x)=g x): ∀(l:List β) (i:Nat),(l.modify i f).map g=l.map g
 |[],i=>by simp
 |x::r,0=>by simp [hf]
 |x::r,i+1=>by simp [zv g f hf r i]
theorem mem_modify {β:Type} {f:β→β} : ∀{l:List β} {i:Nat} {y:β},y∈l.modify i f→ ∃x∈l,y=x∨y=f x
 |[],i,y,h=>by simp at h
 |x::r,0,y,h=>by
  simp only [List.modify_zero_cons,List.mem_cons] at h;rcases h with h|h
  ·exact⟨x,by simp,.inr h⟩
  ·exact⟨y,by simp [h],.inl rfl⟩
 |x::r,i+1,y,h=>by
  simp only [List.modify_succ_cons,List.mem_cons] at h;rcases h with h|h
  ·exact⟨x,by simp,.inl h⟩
  ·obtain⟨z,hz,he⟩:=mem_modify h;exact⟨z,by simp [hz],he⟩
theorem aip {t kt et b c:Nat} {kv:κ→Value} {es:List (jL κ)} {k:κ} {v:Value} {N:Value→World→XS→Prop} (h:mj w X b kv es c) (K:xS P kt kv)
  (ht:P.underlying t=some (.map kt et)) (hX: ∀k,X k→k<w.heap.size)
  (n: ∀w' X',Grown X w X' w' (some b)→mj w' X' b kv (C7 k v c es).1 (C7 k v c es).2→N undef w' X'):
  eU P R X w true (gK t (.map (some b)) (kv k) v) N:=by
 intro wa hk;have hM:=h.kp hk;have hb:=hM.2.1;have cH:b<wa.heap.size:=(Array.getElem?_eq_some_iff.1 hb).1;unfold jy;have hr:(gK t (.map (some b)) (kv k) v).run P wa= .ok () (setBlock wa b (.map ((C7 k v c es).1.map (pC kv)).toArray (C7 k v c es).2)):=by
  simp only [gK,bO,run_underlying ht,bt,getObj,sA,hb,K.bq,fG,K.find,Oa];unfold C7;cases hf:es.findIdx? fun x=>decide (x.1=k)with
  |none=>simp [run_setObj_map hb,pC]
  |some j=>
   have hj:=List.findIdx?_eq_some_iff_getElem.1 hf;obtain⟨Fz,E6,_⟩:=hj;have aiq:es[j].1=k:=by simpa using E6
   simp only [cN,bB Fz,bM,fp,bO];have gD:(vt (((es.map (pC kv)).toArray[j]?).map (·.key)|>.getD (kv k)) (kv k)).run P wa= .ok (kv k) wa:=by
    simp [vt,Fz,pC,aiq,K.same]
   rw [gD];simp only [bt,run_setObj_map hb]
   congr 3
   rw [List.modify_toArray]
   congr 1
   apply List.ext_getElem?;intro q;simp only [List.getElem?_modify,cr];by_cases hq:j=q
   ·subst hq;simp [bB Fz,pC,aiq]
   ·simp [hq]
 simp only [uS,bO,hr,bt,ck];refine⟨WN hM.1,n _ _ (Kk hX hk) ⟨.inl h.1,PU cH,?_,?_,?_⟩⟩
 ·unfold C7;cases hf:es.findIdx? fun x=>decide (x.1=k)with
  |none=>
   simp only [aT,bc,List.map_nil];rw [lf];refine⟨h.2.2.1,by simp,fun a ha y hy=>?_⟩;simp only [aV] at hy;subst hy;rintro rfl;obtain⟨x,hx,rfl⟩:=List.mem_map.1 ha;have:=List.findIdx?_eq_none_iff.1 hf x hx;simp at this
  |some j=>simp only;rw [zv (fun x:jL κ=>x.1) (fun x=>(x.1,v,x.2.2)) (fun _=>rfl)];exact h.2.2.1
 ·unfold C7;cases hf:es.findIdx? fun x=>decide (x.1=k)with
  |none=>
   simp only [aT,bc,List.map_nil];rw [lf];refine⟨h.2.2.2.1,by simp,fun a ha y hy=>?_⟩;simp only [aV] at hy;subst hy;rintro rfl;obtain⟨x,hx,he⟩:=List.mem_map.1 ha;have:=h.2.2.2.2 x hx;omega
  |some j=>simp only;rw [zv (fun x:jL κ=>x.2.2) (fun x=>(x.1,v,x.2.2)) (fun _=>rfl)];exact h.2.2.2.1
 ·unfold C7;cases hf:es.findIdx? fun x=>decide (x.1=k)with
  |none=>
   intro x hx;rcases List.mem_append.1 hx with hx|hx
   ·have:=h.2.2.2.2 x hx;show x.2.2<c+1;omega
   ·simp only [aV] at hx;subst hx;exact Nat.lt_succ_self c
  |some j=>
   intro x hx;obtain⟨y,hy,rfl|rfl⟩:=mem_modify hx
   ·exact h.2.2.2.2 _ hy
   ·exact h.2.2.2.2 y hy
def Ob (k:κ) (es:List (jL κ)):List (jL κ):=match es.findIdx? fun x=>decide (x.1=k)with
 |some i=>es.eraseIdx i
 |none=>es
theorem adf {t kt et tk ty b c:Nat} {kv:κ→Value} {es:List (jL κ)} {k:κ} {N:Value→World→XS→Prop} (h:mj w X b kv es c) (K:xS P kt kv)
  (ht:P.underlying t=some (.map kt et)) (hX: ∀k,X k→k<w.heap.size)
  (n: ∀w' X',Grown X w X' w' (some b)→mj w' X' b kv (Ob k es) c→N (.tuple #[]) w' X'):
  eV P R X w true (sK #[t,tk] ty #[.map (some b),kv k]) N:=by
 intro wa hk;have hM:=h.kp hk;have hb:=hM.2.1;have cH:b<wa.heap.size:=(Array.getElem?_eq_some_iff.1 hb).1;unfold jy;have pe:(Ob k es).Sublist es:=by
  unfold Ob;split
  ·exact List.eraseIdx_sublist _ _
  ·exact List.Sublist.refl _
 have hr:(sK #[t,tk] ty #[.map (some b),kv k]).run P wa= .ok (.tuple #[]) (setBlock wa b (.map ((Ob k es).map (pC kv)).toArray c)):=by
  have e0:(#[t,tk]:Array TypeId)[0]? =some t:=rfl;have e1:(#[Value.map (some b),kv k]:Array Value)[0]? =some (.map (some b)):=rfl;have e2:(#[Value.map (some b),kv k]:Array Value)[1]? =some (kv k):=rfl;simp only [sK,e0,e1,e2,bO,run_underlying ht,bt,getObj,sA,hb,K.bq,fG,K.find,Oa];unfold Ob;cases hf:es.findIdx? fun x=>decide (x.1=k)with
  |none=>simp [run_setObj_map hb]
  |some j=>
   obtain⟨Fz,_,_⟩:=List.findIdx?_eq_some_iff_getElem.1 hf;simp only [cN,bB Fz,bM,fp,run_setObj_map hb,bt,ck];simp [Array.eraseIdxIfInBounds,Fz,Go.ChangeMaps.map_eraseIdx,run_setObj_map hb]
 simp only [vS,bO,hr,bt,ck];exact⟨WN hM.1,n _ _ (Kk hX hk) ⟨.inl h.1,PU cH,h.2.2.1.sublist (pe.map _),h.2.2.2.1.sublist (pe.map _),fun x hx=>h.2.2.2.2 x (pe.subset hx)⟩⟩
def xT (w:World) (X:XS) (r b:Nat) (kv:κ→Value) (es:List (jL κ)) (c:Nat) (left:List (jL κ)):Prop:=
 mj w X b kv es c∧X r∧r≠b∧ ∃seen:Array Nat,w.heap[r]? =some (.mapIter (some b) c seen c)∧left=es.filter (fun x=>!seen.contains x.2.2)
theorem xT.kp {r b:Nat} {kv:κ→Value} {es left:List (jL κ)} {c:Nat} {w':World} (h:xT w X r b kv es c left) (hk:Kp X w w'):xT w' X r b kv es c left:=
 ⟨h.1.kp hk,h.2.1,h.2.2.1,let⟨s,hs,hl⟩:=h.2.2.2;⟨s,by rw [hk.block r h.2.1];exact hs,hl⟩⟩
theorem xT.mono {r b:Nat} {kv:κ→Value} {es left:List (jL κ)} {c:Nat} {Y:XS} (h:xT w X r b kv es c left) (hs: ∀k,X k→Y k):xT w Y r b kv es c left:=
 ⟨h.1.mono hs,hs _ h.2.1,h.2.2⟩
theorem xT.since {r b:Nat} {kv:κ→Value} {es left:List (jL κ)} {c:Nat} {Y:XS} {w':World} (h:xT w X r b kv es c left) (hs:aj X w Y w'):xT w' Y r b kv es c left:=
 (h.kp hs.kp).mono hs.sub
theorem ae9 {t kt et b c:Nat} {kv:κ→Value} {es:List (jL κ)} {N:Value→World→XS→Prop} (h:mj w X b kv es c) (ht:P.underlying t=some (.map kt et))
  (hX: ∀k,X k→k<w.heap.size) (n: ∀r w' X',w.heap.size≤r→aj X w X' w'→xT w' X' r b kv es c es→N (ptr r 0) w' X'):
  eV P R X w m (xO t (.map (some b))) N:=by
 intro wa hk;have hM:=h.kp hk;have hb:=hM.2.1;have cH:b<wa.heap.size:=(Array.getElem?_eq_some_iff.1 hb).1;unfold jy;have hr:(xO t (.map (some b))).run P wa= .ok (ptr wa.heap.size 0) (wa.alloc (.mapIter (some b) c #[] c)):=by
  simp [xO,run_underlying ht,getObj,sA,hb]
 simp only [vS,bO,hr,bt,ck];have hx:Ext wa (wa.alloc (.mapIter (some b) c #[] c)):=Ext.alloc _ _;have hs:=aj.fh hX hk hx;exact⟨Step.fh hx,n _ _ _ hk.size hs ⟨h.since hs,.inr ⟨bf _,by simp⟩,by omega,#[],heap_alloc_new wa _,(List.filter_eq_self.2 (by simp)).symm⟩⟩
theorem ag3 {ty r b c:Nat} {kv:κ→Value} {es left:List (jL κ)} {N:Value→World→XS→Prop} (h:xT w X r b kv es c left) (hX: ∀k,X k→k<w.heap.size)
  (n0:left=[]→ ∀w' X',aj X w X' w'→N (.tuple #[.bool false]) w' X')
  (n1: ∀x∈left,∀w' X',Grown X w X' w' (some r)→xT w' X' r b kv es c (left.filter fun y=>decide (y.2.2≠x.2.2))→
   (∀wa,Kp X' w' wa→(lU (ptr r 0)).run P wa= .ok (.tuple #[kv x.1,x.2.1]) wa)→N (.tuple #[.bool true,kv x.1,x.2.1]) w' X'):
  eV P R X w true (Instr.next (ptr r 0) false ty) N:=by
 intro wa hk;obtain⟨hM,hXr,HU,seen,hr,abA⟩:=h.kp hk;have hb:=hM.2.1;have tN:r<wa.heap.size:=(Array.getElem?_eq_some_iff.1 hr).1;unfold jy;have hold: ∀x∈((es.map (pC kv)).toArray).toList,x.born<c:=by
  intro x hx;simp only [fG,List.mem_map] at hx;obtain⟨y,hy,rfl⟩:=hx;exact hM.2.2.2.2 y hy
 have fv:(leftOf (es.map (pC kv)).toArray seen).toList=left.map (pC kv):=by
  rw [abA];simp only [leftOf,Array.toList_filter,fG,List.filter_map];rfl
 rcases run_next_at (P:=P) wa ty r b c c seen _ c hr hb hold (bf _)with⟨hz,mR⟩|⟨e,he,w1,PV,mR⟩
 ·simp only [vS,bO,mR,bt,ck];have h0:left=[]:=by
   have:left.map (pC kv)=[]:=by rw [←fv];exact fA (by simpa using hz)
   simpa using this
  exact⟨Step.fh (Ext.refl _),n0 h0 _ _ (aj.fh hX hk (Ext.refl _))⟩
 ·rw [fv] at he;obtain⟨x,hx,rfl⟩:=List.mem_map.1 he;simp only [vS,bO,mR,bt,ck];have uY:Kp X w w1:=by
   rcases PV with rfl|rfl
   ·exact hk
   ·exact⟨hk.os,hk.tape,hk.output,hk.size,hk.block⟩
  have air:r<w1.heap.size:=by rcases PV with rfl|rfl<;>exact tN
  have kW:w1.heap[b]? =some (.map (es.map (pC kv)).toArray c):=by rcases PV with rfl|rfl<;>exact hb
  have alP:Fr X wa w1:=by rcases PV with rfl|rfl<;>exact⟨rfl,rfl,rfl,bf _,fun _ _ _=>rfl⟩
  have pF: ∀o,(setBlock w1 r o).heap[b]? =some (.map (es.map (pC kv)).toArray c):=by
   intro o;rw [←kW];simp [setBlock,dQ,HU]
  have lx:w1.heap.size=wa.heap.size:=by rcases PV with rfl|rfl<;>rfl
  have akf:grow X wa (setBlock w1 r (.mapIter (some b) c (seen.push x.2.2) c))=grow X w1 (setBlock w1 r (.mapIter (some b) c (seen.push x.2.2) c)):=by
   unfold grow;rw [lx]
  have hG:=Kk (o:=.mapIter (some b) c (seen.push x.2.2) c) (b:=r) hX uY;have WO:xT (setBlock w1 r (.mapIter (some b) c (seen.push x.2.2) c)) (grow X w1 (setBlock w1 r (.mapIter (some b) c (seen.push x.2.2) c))) r b kv es c (left.filter fun y=>decide (y.2.2≠x.2.2)):=by
   refine⟨⟨.inl hM.1,pF _,hM.2.2⟩,.inl hXr,HU,seen.push x.2.2,PU air,?_⟩;rw [abA,List.filter_filter]
   congr 1
   funext y
   by_cases hy:y.2.2=x.2.2<;>simp [hy,Array.contains_push,Bool.beq_eq_decide_eq]
  show Fr X wa _∧N _ _ (grow X wa _)
  refine⟨alP.trans (WN hXr),?_⟩
  show N (.tuple #[.bool true,kv x.1,x.2.1]) (setBlock w1 r (.mapIter (some b) c (seen.push x.2.2) c)) (grow X wa (setBlock w1 r (.mapIter (some b) c (seen.push x.2.2) c)))
  rw [akf];refine n1 x hx _ _ hG WO fun wb me=>?_;have alQ:=WO.kp me;have hxe:x∈es:=by rw [abA] at hx;exact(List.mem_filter.1 hx).1
  exact run_entry_at (P:=P) wb r b c seen (es.map (pC kv)).toArray c (pC kv x) (by rw [me.block r (.inl hXr)];exact PU air) alQ.1.2.1 (by rw [fG];exact List.mem_map.2 ⟨x,hxe,rfl⟩)
   (by rw [fG,List.map_map];exact hM.2.2.2.1)
theorem afa {r:Nat} {k v:Value} {N:Value→World→XS→Prop} (hX: ∀k,X k→k<w.heap.size)
  (h: ∀wa,Kp X w wa→(lU (ptr r 0)).run P wa= .ok (.tuple #[k,v]) wa) (n: ∀w' X',aj X w X' w'→N (.tuple #[k,v]) w' X'):
  eV P R X w m (lU (ptr r 0)) N:=by
 intro wa hk;unfold jy;simp only [vS,bO,h wa hk,bt,ck];exact⟨Step.fh (Ext.refl _),n _ _ (aj.fh hX hk (Ext.refl _))⟩
variable {P : Program} {R : Ending → World → Prop} {X : XS} {w : World} {m : Bool} {N : Value → Prop}
def un (e:Value) (M:Value→Prop):Prop:=M e
def jn {α:Type} (r:α) (B:α→Prop):Prop:=B r
def aS (S f _fo _sz:Nat) (x:Value):Sem Value:=Instr.fieldAt S x f
def bb (t:TypeId) (x:Value):Sem Value:=iF t x
def gy (t:TypeId) (_n:Nat) (x:Value):Sem Value:=iF t x
def dV (t:TypeId) (_n:Nat) (x v:Value):Sem Unit:=Instr.storeAt t x v
def dD (t:TypeId) (_k:Nat) (v i:Value):Sem Value:=Instr.indexAt t v i
def cK (t ty:TypeId) (v:Value):Sem Value:=kR #[t] ty #[v]
def lJ (t ty:TypeId) (v:Value):Sem Value:=kR #[t] ty #[v]
def ez (t:TypeId) (_cells:Array Value) (parts:Array (Nat×Value)):Sem Value:=Instr.build t parts
def kV (_k:IntKind) (src dst:TypeId) (x:Value):Sem Value:=convert src dst x
def yC (src dst:TypeId) (x:Value):Sem Value:=convert src dst x
def xf (t _n _e:Nat) (x i:Value):Sem Value:=xP t x i
def gU (t _e _k len:Nat) (parts:Array (Nat×Value)):Sem Value:=iD t len parts
def gH (t _e _k _bytes ty:Nat) (v s:Value):Sem Value:=eu #[t,t] ty #[v,s]
def fdV (S f _fo _sz:Nat) (x:Value):Sem Value:=Instr.field S x f
abbrev I (x:Int):Value:=.int .i64 x
abbrev B (x:Bool):Value:=.bool x
def yD (X:XS) (w:World) (F:JT→Nat→World→XS→Prop):Prop:=S7 X w [] [] fun J n _ w X=>F J n w X
def jw (X:XS) (w:World) (v1:Value) (c1:Nat) (F:JT→Nat→Value→World→XS→Prop):Prop:=S7 X w [v1] [c1] fun J n e w X=>F J n (e c1) w X
def jA (X:XS) (w:World) (v1 v2:Value) (c1 c2:Nat) (F:JT→Nat→Value→Value→World→XS→Prop):Prop:=
 S7 X w [v1,v2] [c1,c2] fun J n e w X=>F J n (e c1) (e c2) w X
def tq (X:XS) (w:World) (v1 v2 v3:Value) (c1 c2 c3:Nat) (F:JT→Nat→Value→Value→Value→World→XS→Prop):Prop:=
 S7 X w [v1,v2,v3] [c1,c2,c3] fun J n e w X=>F J n (e c1) (e c2) (e c3) w X
def A6 (X:XS) (w:World) (v1 v2 v3 v4:Value) (c1 c2 c3 c4:Nat) (F:JT→Nat→Value→Value→Value→Value→World→XS→Prop):Prop:=
 S7 X w [v1,v2,v3,v4] [c1,c2,c3,c4] fun J n e w X=>F J n (e c1) (e c2) (e c3) (e c4) w X
def A7 (X:XS) (w:World) (v1 v2 v3 v4 v5:Value) (c1 c2 c3 c4 c5:Nat) (F:JT→Nat→Value→Value→Value→Value→Value→World→XS→Prop):Prop:=
 S7 X w [v1,v2,v3,v4,v5] [c1,c2,c3,c4,c5] fun J n e w X=>F J n (e c1) (e c2) (e c3) (e c4) (e c5) w X
def yE (X:XS) (w:World) (v1 v2 v3 v4 v5 v6:Value) (c1 c2 c3 c4 c5 c6:Nat) (F:JT→Nat→Value→Value→Value→Value→Value→Value→World→XS→Prop):Prop:=
 S7 X w [v1,v2,v3,v4,v5,v6] [c1,c2,c3,c4,c5,c6] fun J n e w X=>F J n (e c1) (e c2) (e c3) (e c4) (e c5) (e c6) w X
def A8 (X:XS) (w:World) (v1 v2 v3 v4 v5 v6 v7:Value) (c1 c2 c3 c4 c5 c6 c7:Nat) (F:JT→Nat→Value→Value→Value→Value→Value→Value→Value→World→XS→Prop):Prop:=
 S7 X w [v1,v2,v3,v4,v5,v6,v7] [c1,c2,c3,c4,c5,c6,c7] fun J n e w X=>F J n (e c1) (e c2) (e c3) (e c4) (e c5) (e c6) (e c7) w X
def yF (J:JT) (n:Nat) (w:World) (X:XS):Prop:=Aj J n [] w X
def jx (J:JT) (n:Nat) (a:Value) (w:World) (X:XS):Prop:=Aj J n [a] w X
def jB (J:JT) (n:Nat) (a b:Value) (w:World) (X:XS):Prop:=Aj J n [a,b] w X
def tt (J:JT) (n:Nat) (a b c:Value) (w:World) (X:XS):Prop:=Aj J n [a,b,c] w X
def A9 (J:JT) (n:Nat) (a b c d:Value) (w:World) (X:XS):Prop:=Aj J n [a,b,c,d] w X
def Ba (J:JT) (n:Nat) (a b c d f:Value) (w:World) (X:XS):Prop:=Aj J n [a,b,c,d,f] w X
def yG (J:JT) (n:Nat) (a b c d f g:Value) (w:World) (X:XS):Prop:=Aj J n [a,b,c,d,f,g] w X
def Bb (J:JT) (n:Nat) (a b c d f g h:Value) (w:World) (X:XS):Prop:=Aj J n [a,b,c,d,f,g,h] w X
def J0 (I:Nat→World→XS→Prop):JT:=fun n _ w X=>I n w X
def J1 (I:Nat→Value→World→XS→Prop):JT:=fun n vs w X=>match vs with
 |[a]=>I n a w X
 |_=>False
def J2 (I:Nat→Value→Value→World→XS→Prop):JT:=fun n vs w X=>match vs with
 |[a,b]=>I n a b w X
 |_=>False
def J3 (I:Nat→Value→Value→Value→World→XS→Prop):JT:=fun n vs w X=>match vs with
 |[a,b,c]=>I n a b c w X
 |_=>False
def J6 (I:Nat→Value→Value→Value→Value→Value→Value→World→XS→Prop):JT:=fun n vs w X=>match vs with
 |[a,b,c,d,f,g]=>I n a b c d f g w X
 |_=>False
theorem ais {F} (I:Nat→World→XS→Prop) (n:Nat) (h0:I n w X)
  (h: ∀n w' X',I n w' X'→F (J0 I) n w' X'):yD X w F:=⟨J0 I,⟨n,h0⟩,fun n _ w' X' _ hj=>h n w' X' hj⟩
theorem fV {v1 c1 F} (I:Nat→Value→World→XS→Prop) (n:Nat) (h0:I n v1 w X)
  (h: ∀n a w' X',I n a w' X'→F (J1 I) n a w' X'):jw X w v1 c1 F:=⟨J1 I,⟨n,h0⟩,fun n e w' X' _ hj=>h n (e c1) w' X' hj⟩
theorem gN {v1 v2 c1 c2 F} (I:Nat→Value→Value→World→XS→Prop) (n:Nat) (h0:I n v1 v2 w X)
  (h: ∀n a b w' X',I n a b w' X'→F (J2 I) n a b w' X'):jA X w v1 v2 c1 c2 F:=⟨J2 I,⟨n,h0⟩,fun n e w' X' _ hj=>h n (e c1) (e c2) w' X' hj⟩
theorem Fw {v1 v2 v3 c1 c2 c3 F} (I:Nat→Value→Value→Value→World→XS→Prop) (n:Nat) (h0:I n v1 v2 v3 w X)
  (h: ∀n a b c w' X',I n a b c w' X'→F (J3 I) n a b c w' X'):tq X w v1 v2 v3 c1 c2 c3 F:=⟨J3 I,⟨n,h0⟩,fun n e w' X' _ hj=>h n (e c1) (e c2) (e c3) w' X' hj⟩
theorem aia {v1 v2 v3 v4 v5 v6 c1 c2 c3 c4 c5 c6 F} (I:Nat→Value→Value→Value→Value→Value→Value→World→XS→Prop) (n:Nat) (h0:I n v1 v2 v3 v4 v5 v6 w X)
  (h: ∀n a b c d f g w' X',I n a b c d f g w' X'→F (J6 I) n a b c d f g w' X'):yE X w v1 v2 v3 v4 v5 v6 c1 c2 c3 c4 c5 c6 F:=
 ⟨J6 I,⟨n,h0⟩,fun n e w' X' _ hj=>h n (e c1) (e c2) (e c3) (e c4) (e c5) (e c6) w' X' hj⟩
theorem ait {I n} (k:Nat) (hk:k<n) (h:I k w X):yF (J0 I) n w X:=⟨k,hk,h⟩
theorem fF {I n a} (k:Nat) (hk:k<n) (h:I k a w X):jx (J1 I) n a w X:=⟨k,hk,h⟩
theorem gA {I n a b} (k:Nat) (hk:k<n) (h:I k a b w X):jB (J2 I) n a b w X:=⟨k,hk,h⟩
theorem Cy {I n a b c} (k:Nat) (hk:k<n) (h:I k a b c w X):tt (J3 I) n a b c w X:=⟨k,hk,h⟩
theorem aic {I n a b c d f g} (k:Nat) (hk:k<n) (h:I k a b c d f g w X):yG (J6 I) n a b c d f g w X:=⟨k,hk,h⟩
theorem cG {α:Type} {r:α} {F:α→Prop} (h:F r):jn r F:=h
theorem fk {α:Type} {r:α} {F:α→Prop} (Q:α→Prop) (h:Q r) (k: ∀c,Q c→F c):jn r F:=k r h
theorem ag4 {l:List Value} {i:Nat} {a:Value} {M:Value→Prop} (h:l[i]? =some a) (k:M a):un (cellOf (.agg l.toArray) i) M:=by
 have:cellOf (.agg l.toArray) i=a:=by simp [cellOf,ad,kN,h]
 unfold un;rw [this];exact k
theorem adg {l:List Value} {o n:Nat} {M:Value→Prop} (k:M (.agg ((l.drop o).take n).toArray)):un (ef (.agg l.toArray) o n) M:=by
 have:ef (.agg l.toArray) o n= .agg ((l.drop o).take n).toArray:=by simp [ef,ad]
 unfold un;rw [this];exact k
theorem Wd {c:Array Value} {M:Value→Prop} (k:M (.agg c)):un (.agg (ad (.agg c))) M:=k
theorem zk {v:Value} {M:Value→Prop} (k:M v):un (aO (.bool true) true v) M:=k
theorem Rh {v:Value} {M:Value→Prop} (k:M v):un (aO (.bool false) false v) M:=k
theorem afb {v:Value} {M:Value→Prop} (k:M undef):un (aO (.bool true) false v) M:=k
theorem Cl {v:Value} {M:Value→Prop} (k:M undef):un (aO (.bool false) true v) M:=k
theorem ag5 {v:Value} {q:Bool} {M:Value→Prop} (k:M undef):un (aO undef q v) M:=by
 have:aO undef q v=undef:=by cases q<;>rfl
 unfold un;rw [this];exact k
theorem abB {b:Bool} {A:Prop} (h:b=true) (k:A):bq b A:=by subst h;exact k
theorem B2 {A C:Prop} (h:A):ao (.bool true) A C:=⟨fun _=>h,fun h=>absurd h (by simp)⟩
theorem wI {A C:Prop} (h:C):ao (.bool false) A C:=⟨fun h=>absurd h (by simp),fun _=>h⟩
theorem aiu {s:Sem Next} {want:Bool} (h:N undef):aD P X w undef want s N:=by
 have e:lG undef want=false:=by cases want<;>rfl
 unfold aD;exact⟨undef,fun hf=>absurd (e.symm.trans hf) (by simp),fun _=>rfl,h⟩
theorem alR {want:Bool} {A C:Prop} (h:C):gE undef want A C:=by
 have e:lG undef want=false:=by cases want<;>rfl
 unfold gE;rw [e];exact⟨fun hf=>absurd hf (by simp),fun _=>h⟩
theorem tB {s:Sem Value} (h:aa P X w s N):aD P X w (.bool true) true (vS s) N:=LB h
theorem NY {s:Sem Value} (h:aa P X w s N):aD P X w (.bool false) false (vS s) N:=LB h
section
variable {t : TypeId} {k : IntKind} {a b : Int} {xo yo : Operand}
theorem abC (hT:a<b→N (.bool true)) (hF: ¬a<b→N (.bool false)):aa P X w (binOp .lss t (.int k a) (.int k b)) N:=
 agW (by by_cases h:a<b;(· rw [decide_eq_true h];exact hT h);(· rw [decide_eq_false h];exact hF h))
theorem abD (hT:a≤b→N (.bool true)) (hF: ¬a≤b→N (.bool false)):aa P X w (binOp .leq t (.int k a) (.int k b)) N:=
 agX (by by_cases h:a≤b;(· rw [decide_eq_true h];exact hT h);(· rw [decide_eq_false h];exact hF h))
theorem OX (hT:a>b→N (.bool true)) (hF: ¬a>b→N (.bool false)):aa P X w (binOp .gtr t (.int k a) (.int k b)) N:=
 agY (by by_cases h:a>b;(· rw [decide_eq_true h];exact hT h);(· rw [decide_eq_false h];exact hF h))
theorem abE (hT:a≥b→N (.bool true)) (hF: ¬a≥b→N (.bool false)):aa P X w (binOp .geq t (.int k a) (.int k b)) N:=
 agZ (by by_cases h:a≥b;(· rw [decide_eq_true h];exact hT h);(· rw [decide_eq_false h];exact hF h))
theorem Uc (hT:a=b→N (.bool true)) (hF: ¬a=b→N (.bool false)):aa P X w (aJ .eql t xo yo (.int k a) (.int k b)) N:=
 ZT (by by_cases h:a=b;(· rw [decide_eq_true h];exact hT h);(· rw [decide_eq_false h];exact hF h))
theorem abF (hT: ¬a=b→N (.bool true)) (hF:a=b→N (.bool false)):aa P X w (aJ .neq t xo yo (.int k a) (.int k b)) N:=
 ag0 (by by_cases h:a=b;(· rw [decide_eq_false (fun hn=>hn h)];exact hF h);(· rw [decide_eq_true h];exact hT h))
theorem aiv (h:a<b) (k':N (.bool true)):aa P X w (binOp .lss t (.int k a) (.int k b)) N:=abC (fun _=>k') (fun hn=>absurd h hn)
theorem ac6 (h: ¬a<b) (k':N (.bool false)):aa P X w (binOp .lss t (.int k a) (.int k b)) N:=abC (fun hn=>absurd hn h) (fun _=>k')
theorem aiw (h:a≤b) (k':N (.bool true)):aa P X w (binOp .leq t (.int k a) (.int k b)) N:=abD (fun _=>k') (fun hn=>absurd h hn)
theorem aix (h: ¬a≤b) (k':N (.bool false)):aa P X w (binOp .leq t (.int k a) (.int k b)) N:=abD (fun hn=>absurd hn h) (fun _=>k')
theorem Ww (h:a>b) (k':N (.bool true)):aa P X w (binOp .gtr t (.int k a) (.int k b)) N:=OX (fun _=>k') (fun hn=>absurd h hn)
theorem Wx (h: ¬a>b) (k':N (.bool false)):aa P X w (binOp .gtr t (.int k a) (.int k b)) N:=OX (fun hn=>absurd hn h) (fun _=>k')
theorem aiy (h:a≥b) (k':N (.bool true)):aa P X w (binOp .geq t (.int k a) (.int k b)) N:=abE (fun _=>k') (fun hn=>absurd h hn)
theorem aiz (h: ¬a≥b) (k':N (.bool false)):aa P X w (binOp .geq t (.int k a) (.int k b)) N:=abE (fun hn=>absurd hn h) (fun _=>k')
theorem Jr (h:a=b) (k':N (.bool true)):aa P X w (aJ .eql t xo yo (.int k a) (.int k b)) N:=Uc (fun _=>k') (fun hn=>absurd h hn)
theorem aiA (h: ¬a=b) (k':N (.bool false)):aa P X w (aJ .eql t xo yo (.int k a) (.int k b)) N:=Uc (fun hn=>absurd hn h) (fun _=>k')
theorem aiB (h: ¬a=b) (k':N (.bool true)):aa P X w (aJ .neq t xo yo (.int k a) (.int k b)) N:=abF (fun _=>k') (fun hn=>absurd hn h)
theorem aiC (h:a=b) (k':N (.bool false)):aa P X w (aJ .neq t xo yo (.int k a) (.int k b)) N:=abF (fun hn=>absurd h hn) (fun _=>k')
theorem afT (h1: -(2^63)≤a+b) (h2:a+b<2^63) (h:N (.int .i64 (a+b))):aa P X w (binOp .add t (.int .i64 a) (.int .i64 b)) N:=
 Rl (by rw [wrap_i64 h1 h2];exact h)
theorem abn (h1: -(2^63)≤a-b) (h2:a-b<2^63) (h:N (.int .i64 (a-b))):aa P X w (binOp .sub t (.int .i64 a) (.int .i64 b)) N:=
 ZS (by rw [wrap_i64 h1 h2];exact h)
theorem ajO (h1: -(2^63)≤a*b) (h2:a*b<2^63) (h:N (.int .i64 (a*b))):aa P X w (binOp .mul t (.int .i64 a) (.int .i64 b)) N:=
 Rm (by rw [wrap_i64 h1 h2];exact h)
end
theorem Hd {a b:ByteArray} :a.toList=b.toList↔a=b:=by
 constructor
 ·intro h;rw [ey,ey] at h;obtain⟨⟨x⟩⟩:=a;obtain⟨⟨y⟩⟩:=b;simpa using h
 ·intro h;rw [h]
def jk (a b:ByteArray):Bool:=bY a.toList b.toList
section
variable {t : TypeId} {a b : ByteArray} {xo yo : Operand}
theorem aiD (hT:a=b→N (.bool true)) (hF: ¬a=b→N (.bool false)):aa P X w (aJ .eql t xo yo (.string a) (.string b)) N:=
 aeQ (by simp only [Hd];by_cases h:a=b;(· rw [decide_eq_true h];exact hT h);(· rw [decide_eq_false h];exact hF h))
theorem aiE (hT: ¬a=b→N (.bool true)) (hF:a=b→N (.bool false)):aa P X w (aJ .neq t xo yo (.string a) (.string b)) N:=
 aeR (by simp only [ne_eq,Hd];by_cases h:a=b;(· rw [decide_eq_false (fun hn=>hn h)];exact hF h);(· rw [decide_eq_true h];exact hT h))
theorem aiF (hT:jk a b=true→N (.bool true)) (hF:jk a b=false→N (.bool false)):aa P X w (binOp .lss t (.string a) (.string b)) N:=
 aeS (by unfold jk at hT hF;cases h:bY a.toList b.toList;(· exact hF h);(· exact hT h))
theorem aiG (hT:jk a b=false→N (.bool true)) (hF:jk a b=true→N (.bool false)):aa P X w (binOp .geq t (.string a) (.string b)) N:=
 aeT (by unfold jk at hT hF;cases h:bY a.toList b.toList;(· exact hT h);(· exact hF h))
theorem aiH (hT:jk a b=true∨a=b→N (.bool true)) (hF:jk a b=false→ ¬a=b→N (.bool false)):aa P X w (binOp .leq t (.string a) (.string b)) N:=
 aeU (by
  unfold jk at hT hF;simp only [Hd];cases h:bY a.toList b.toList
  ·by_cases h2:a=b
   ·simp only [h2,decide_true,Bool.or_true];exact hT (.inr h2)
   ·simp only [h2,decide_false,Bool.or_false];exact hF h h2
  ·simp only [Bool.true_or];exact hT (.inl h))
theorem aiI (hT:jk a b=false→ ¬a=b→N (.bool true)) (hF:jk a b=true∨a=b→N (.bool false)):aa P X w (binOp .gtr t (.string a) (.string b)) N:=
 aeV (by
  unfold jk at hT hF;simp only [Hd];cases h:bY a.toList b.toList
  ·by_cases h2:a=b
   ·simp only [h2,decide_true,Bool.or_true,Bool.not_true];exact hF (.inr h2)
   ·simp only [h2,decide_false,Bool.or_false,Bool.not_false];exact hT h h2
  ·simp only [Bool.true_or,Bool.not_true];exact hF (.inl h))
end
def Kl (a b:Nat):Bool:=FloatKind.f64.format.order a b==some .lt
def DU (a b:Nat):Bool:=FloatKind.f64.format.order a b==some .eq
def PW (a b:Nat):Bool:=FloatKind.f64.format.order a b==some .gt
section
variable {t : TypeId} {a b : Nat} {xo yo : Operand}
theorem aiJ (hT:Kl a b=true→N (.bool true)) (hF:Kl a b=false→N (.bool false)):aa P X w (binOp .lss t (.float .f64 a) (.float .f64 b)) N:=
 aeW (by unfold Kl at hT hF;cases h:(FloatKind.f64.format.order a b==some .lt);(· exact hF h);(· exact hT h))
theorem aiK (hT:PW a b=true→N (.bool true)) (hF:PW a b=false→N (.bool false)):aa P X w (binOp .gtr t (.float .f64 a) (.float .f64 b)) N:=
 aeY (by unfold PW at hT hF;cases h:(FloatKind.f64.format.order a b==some .gt);(· exact hF h);(· exact hT h))
theorem aiL (hT:Kl a b=true∨DU a b=true→N (.bool true)) (hF:Kl a b=false→DU a b=false→N (.bool false)):aa P X w (binOp .leq t (.float .f64 a) (.float .f64 b)) N:=
 aeX (by
  unfold Kl DU at hT hF;cases h:(FloatKind.f64.format.order a b==some .lt)
  ·cases h2:(FloatKind.f64.format.order a b==some .eq)
   ·exact hF h h2
   ·exact hT (.inr h2)
  ·exact hT (.inl h))
theorem aiM (hT:PW a b=true∨DU a b=true→N (.bool true)) (hF:PW a b=false→DU a b=false→N (.bool false)):aa P X w (binOp .geq t (.float .f64 a) (.float .f64 b)) N:=
 aeZ (by
  unfold PW DU at hT hF;cases h:(FloatKind.f64.format.order a b==some .gt)
  ·cases h2:(FloatKind.f64.format.order a b==some .eq)
   ·exact hF h h2
   ·exact hT (.inr h2)
  ·exact hT (.inl h))
theorem aiN (hT:DU a b=false→N (.bool true)) (hF:DU a b=true→N (.bool false)):aa P X w (aJ .neq t xo yo (.float .f64 a) (.float .f64 b)) N:=
 ae0 (by
  unfold DU at hT hF
  show N (.bool (!(FloatKind.f64.format.order a b==some .eq)))
  cases h:(FloatKind.f64.format.order a b==some .eq)
  ·exact hT h
  ·exact hF h)
end
theorem PF (h:N (.bool false)):aa P X w (bg .not (.bool true)) N:=Z9 h
theorem Wc (h:N (.bool true)):aa P X w (bg .not (.bool false)) N:=Z9 h
section
variable {t : TypeId} {xo yo : Operand} {a b c a' b' c' : Int}
theorem WQ (h:iZ P t 3=true) (hT:a=a'→b=b'→c=c'→N (.bool true)) (hF: ¬(a=a'∧b=b'∧c=c')→N (.bool false)):
  aa P X w (aJ .eql t xo yo (.agg #[.int .i64 a,.int .i64 b,.int .i64 c]) (.agg #[.int .i64 a',.int .i64 b',.int .i64 c'])) N:=
 ae5 h (by by_cases hc:a=a'∧b=b'∧c=c';(· rw [decide_eq_true hc];exact hT hc.1 hc.2.1 hc.2.2);(· rw [decide_eq_false hc];exact hF hc))
theorem aiO (h:iZ P t 3=true) (hT: ¬(a=a'∧b=b'∧c=c')→N (.bool true)) (hF:a=a'→b=b'→c=c'→N (.bool false)):
  aa P X w (aJ .neq t xo yo (.agg #[.int .i64 a,.int .i64 b,.int .i64 c]) (.agg #[.int .i64 a',.int .i64 b',.int .i64 c'])) N:=
 ae6 h (by by_cases hc:a=a'∧b=b'∧c=c';(· rw [decide_eq_true hc];exact hF hc.1 hc.2.1 hc.2.2);(· rw [decide_eq_false hc];exact hT hc))
end
theorem akg {t:TypeId} {b o:Nat} {v:Value} {l:List Value} (h:Cells w X b o l) (hi:jP P t=some (false,1)) (hl:l[0]? =some v) (k:N v):
  aa P X w (bb t (ptr b o)) N:=by
 cases l with
 |nil=>cases hl
 |cons x r=>
  simp only [fP,aB] at hl;subst hl;exact ac9 h hi k
theorem akh {t ty:TypeId} {s:ByteArray} (ht:P.underlying t=some .string) (k:N (.int .i64 s.size)):aa P X w (lJ t ty (.string s)) N:=ae2 ht k
theorem xk {t:TypeId} {parts:Array (Nat×Value)} {cells:Array Value} (h:P.built t parts.toList=some cells) (k:N (.agg cells)):
  aa P X w (ez t cells parts) N:=adb cells h k
theorem vM {a:Addr} (h:N (.pointer (some a))):ay P X w (aE (.pointer (some a))) N:=ag2 h
theorem dI {f:FuncId} {args:Array Value} {b:Bool} {N:Value→World→XS→Prop}
  (h:Pure P f args (.bool b)) (hf:enters P f=true) (hX: ∀k,X k→k<w.heap.size)
  (hT:b=true→ ∀w' X',aj X w X' w'→N (.bool true) w' X') (hF:b=false→ ∀w' X',aj X w X' w'→N (.bool false) w' X'):
  eC P R X w m f args N:=aaa hf hX h (by
  cases b
  ·exact hF rfl
  ·exact hT rfl)
theorem gh {f:FuncId} {args:Array Value} {v:Value} {N:Value→World→XS→Prop}
  (h:Pure P f args v) (hf:enters P f=true) (hX: ∀k,X k→k<w.heap.size)
  (k: ∀w' X',aj X w X' w'→N v w' X'):eC P R X w m f args N:=aaa hf hX h k
structure eD (F X:XS) (w:World) (X':XS) (w':World):Prop where
 os:w'.os=w.os
 tape:w'.tape=w.tape
 output:w'.output=w.output
 size:w.heap.size≤w'.heap.size
 block: ∀k,X k→ ¬F k→w'.heap[k]? =w.heap[k]?
 sub: ∀k,X k→X' k
 has: ∀k,X' k→k<w'.heap.size
theorem eD.since {F Y X':XS} {w':World} (c:eD F X w X' w') (hY: ∀k,Y k→X k∧ ¬F k):aj Y w X' w':=
 ⟨⟨c.os,c.tape,c.output,c.size,fun k hk=>c.block k (hY k hk).1 (hY k hk).2⟩,fun k hk=>c.sub k (hY k hk).1,c.has⟩
theorem aj.dM {F X0 X':XS} {w0 w':World} (h:aj X0 w0 X w) (c:eD F X w X' w') (hd: ∀k,X0 k→ ¬F k):aj X0 w0 X' w':=
 ⟨⟨c.os.trans h.kp.os,c.tape.trans h.kp.tape,c.output.trans h.kp.output,ah h.kp.size c.size,
  fun k hk=>(c.block k (h.sub k hk) (hd k hk)).trans (h.kp.block k hk)⟩,fun k hk=>c.sub k (h.sub k hk),c.has⟩
theorem eD.abG {F:XS} {wa w':World} (hX: ∀k,X k→k<w.heap.size) (hk:Kp X w wa) (hf:Fr F wa w'):eD F X w (grow X wa w') w':=
 ⟨hf.os.trans hk.os,hf.tape.trans hk.tape,hf.output.trans hk.output,ah hk.size hf.size,
  fun k hx hn=>(hf.block k (aK (hX k hx) hk.size) hn).trans (hk.block k hx),fun _ h=>.inl h,
  fun k h=>h.elim (fun h=>aK (hX k h) (ah hk.size hf.size)) (fun h=>h.2)⟩
theorem eD.tO {X':XS} {w':World} (h:aj X w X' w') (F:XS):eD F X w X' w':=
 ⟨h.kp.os,h.kp.tape,h.kp.output,h.kp.size,fun k hk _=>h.kp.block k hk,h.sub,h.has⟩
theorem Grown.dM {X':XS} {w':World} {row:Option Nat} (g:Grown X w X' w' row):eD (fun k=>some k=row) X w X' w':=
 ⟨g.os,g.tape,g.output,g.size,fun k hk hn=>g.block k hk hn,g.sub,g.has⟩
theorem eD.trans {F X' sR:XS} {w' kq:World} (a:eD F X w X' w') (b:eD F X' w' sR kq):eD F X w sR kq:=
 ⟨b.os.trans a.os,b.tape.trans a.tape,b.output.trans a.output,ah a.size b.size,
  fun k hk hn=>(b.block k (a.sub k hk) hn).trans (a.block k hk hn),fun k hk=>b.sub k (a.sub k hk),b.has⟩
theorem eD.mono {F G X':XS} {w':World} (a:eD F X w X' w') (h: ∀k,X k→F k→G k):eD G X w X' w':=
 ⟨a.os,a.tape,a.output,a.size,fun k hk hn=>a.block k hk fun hf=>hn (h k hk hf),a.sub,a.has⟩
def made (w w':World):XS:=fun g=>w.heap.size≤g∧g<w'.heap.size
def out (F:XS) (w:World):XS:=fun k=>k<w.heap.size∧ ¬F k
def Bo (F:XS) (w0:World) (Q:Value→World→Prop):Ending→World→Prop:=fun e w'=> ∃v,e= .returned v∧Fr F w0 w'∧Q v w'
def Ct (P:Program) (f:FuncId) (args:Array Value) (w:World) (X F:XS) (Q:Value→World→World→Prop):Prop:=
 ∀wa,Kp X w wa→Calls P f args wa (Bo F wa fun v w'=>Q v wa w')
theorem Ct.mono {f:FuncId} {args:Array Value} {F:XS} {Q Q':Value→World→World→Prop} (h:Ct P f args w X F Q) (k: ∀v wa w',Kp X w wa→Q v wa w'→Q' v wa w'):Ct P f args w X F Q':=
 fun wa hk=>(h wa hk).mono fun _ _ ⟨v,he,hf,hq⟩=>⟨v,he,hf,k v wa _ hk hq⟩
theorem cJ {f:FuncId} {args:Array Value} {N:Value→World→XS→Prop} {Q:Value→World→World→Prop}
  (h:Ct P f args w X nX Q) (hf:enters P f=true) (hX: ∀k,X k→k<w.heap.size)
  (k: ∀v wa w' X',Q v wa w'→w.heap.size≤wa.heap.size→(∀k,made wa w' k→X' k)→aj X w X' w'→N v w' X'):eC P R X w m f args N:=
 WK (Q:=Q) hf hX h fun v wa w' X' hk _ hn hq hs=>k v wa w' X' hq hk.size (fun g hg=>hn g hg.1 hg.2) hs
theorem xl {f:FuncId} {args:Array Value} {N:Value→World→XS→Prop} {F:XS} {Q:Value→World→World→Prop}
  (h:Ct P f args w X F Q) (hf:enters P f=true) (hX: ∀k,X k→k<w.heap.size) (hF: ∀k,F k→X k)
  (k: ∀v wa w' X',Q v wa w'→w.heap.size≤wa.heap.size→(∀k,made wa w' k→X' k)→Kp X w wa→eD F X w X' w'→N v w' X'):eC P R X w true f args N:=by
 intro wa hk;unfold jy;rw [pD hf args wa];refine⟨rfl,(h wa hk).mono ?_⟩;rintro e w' ⟨v,rfl,ly,hq⟩;exact⟨ly.mono hF,k v wa w' _ hq hk.size (fun g hg=>.inr hg) hk (eD.abG hX hk ly)⟩
theorem ak {w0:World} {v:Value} {Q:Value→World→Prop} (hs:aj (ba w0) w0 X w) (h: ∀wa,Kp X w wa→Q v wa):fin (Bo nX w0 Q) X w v:=
 fun _ hk=>⟨v,rfl,hs.ext hk,h _ hk⟩
theorem aac {w0:World} {v:Value} {F:XS} {Q:Value→World→Prop} (hs:aj (out F w0) w0 X w) (h: ∀wa,Kp X w wa→Q v wa):fin (Bo F w0 Q) X w v:=
 fun _ hk=>⟨v,rfl,⟨hk.os.trans hs.kp.os,hk.tape.trans hs.kp.tape,hk.output.trans hs.kp.output,ah hs.kp.size hk.size,
  fun k hl hn=>(hk.block k (hs.sub k ⟨hl,hn⟩)).trans (hs.kp.block k ⟨hl,hn⟩)⟩,h _ hk⟩
theorem aj.out (F:XS) (w:World):aj (out F w) w (ba w) w:=⟨Kp.refl _ _,fun _ h=>h.1,fun _ h=>h⟩
theorem Own.up {w' wa:World} {X':XS} {lo e k:Nat} {v:Value} {rows:List (List Value)} (h:Own w' (made wa w') wa.heap.size e k v rows) (fU: ∀k,made wa w' k→X' k) (hl:lo≤wa.heap.size):
  Own w' X' lo e k v rows:=(h.mono fU).low hl
theorem Own.dM {F X':XS} {w':World} {lo e k:Nat} {v:Value} {rows:List (List Value)} (h:Own w X lo e k v rows) (c:eD F X w X' w') (hd: ∀g,v.ownBlock=some g→ ¬F g):Own w' X' lo e k v rows:=by
 obtain⟨h1,h2,h3⟩:=h;refine⟨h1,⟨h2.1,?_⟩,fun g hg=>c.sub g (h3 g hg)⟩;rcases h2.2 with h|⟨g,cap,cur,rfl,hb,hg,hr⟩
 ·exact .inl h
 ·exact .inr ⟨g,cap,cur,rfl,hb,by rw [c.block g (h3 g rfl) (hd g rfl)];exact hg,hr⟩
theorem Sl.sub {k:Nat} {v:Value} {rows:List (List Value)} {Y:XS} (h:Sl w X k v rows) (hs: ∀k,X k→k<w.heap.size→Y k):Sl w Y k v rows:=by
 obtain⟨h1,h2,base,cap,hv,hc,hr⟩:=h;exact⟨h1,h2,base,cap,hv,fun cU=>let⟨b,o,hb,jj⟩:=hc cU;⟨b,o,hb,hs _ jj.1 jj.lt,jj.2⟩,hr⟩
theorem Sl.len {k:Nat} {v:Value} {rows:List (List Value)} (h:Sl w X k v rows):rows.length≤2^63-1:=h.2.1
theorem Sl.fQ {α:Type} {enc:α→List Value} {k:Nat} {v:Value} {xs:List α} (h:Sl w X k v (xs.map enc)):xs.length≤2^63-1:=by have:=h.2.1;simpa using this
theorem Cells.sub {b o:Nat} {l:List Value} {Y:XS} (h:Cells w X b o l) (hs: ∀k,X k→k<w.heap.size→Y k):Cells w Y b o l:=⟨hs _ h.1 h.lt,h.2⟩
theorem Cells.ba {b o:Nat} {l:List Value} (h:Cells w X b o l):Cells w (ba w) b o l:=⟨h.lt,h.2⟩
variable {P : Program} {R : Ending → World → Prop} {X Y Z : XS} {w w' kq : World} {m : Bool} {N : Value → Prop} {α : Type}
def Mv (X:XS) (w:World) (Y:XS) (w':World):Prop:= ∀k,X k→k<w.heap.size→Y k∧w'.heap[k]? =w.heap[k]?
theorem Mv.trans (a:Mv X w Y w') (b:Mv Y w' Z kq):Mv X w Z kq:=fun k hk hl=>by
 obtain⟨h1,h2⟩:=a k hk hl;have yH:k<w'.heap.size:=by
  have:w'.heap[k]? =some w.heap[k]:=by rw [h2];exact Array.getElem?_eq_getElem hl
  exact(Array.getElem?_eq_some_iff.1 this).1
 obtain⟨h3,h4⟩:=b k h1 yH;exact⟨h3,h4.trans h2⟩
theorem aj.mv (h:aj X w Y w'):Mv X w Y w':=fun k hk _=>⟨h.sub k hk,h.kp.block k hk⟩
theorem _root_.Go.dL.Kp.mv (h:Kp X w w'):Mv X w X w':=fun k hk _=>⟨hk,h.block k hk⟩
theorem Mv.ba:Mv X w (ba w) w:=fun _ _ hl=>⟨hl,rfl⟩
theorem _root_.Go.dL.Kp.dm (h:Kp X w w'):Mv X w (ba w') w':=h.mv.trans Mv.ba
theorem Mv.out {F:XS} (h: ∀k,X k→ ¬F k):Mv X w (dL.out F w) w:=fun k hk hl=>⟨⟨hl,h k hk⟩,rfl⟩
theorem Mv.sub (h: ∀k,X k→Y k):Mv X w Y w:=fun k hk _=>⟨h k hk,rfl⟩
theorem Ext.mv (h:Ext w w'):Mv (dL.ba w) w (dL.ba w') w':=fun _ _ hl=>⟨aK hl h.size,h.block hl⟩
theorem eD.mv {F A:XS} (c:eD F X w Y w') (h: ∀k,A k→X k∧ ¬F k):Mv A w Y w':=fun k hk _=>⟨c.sub k (h k hk).1,c.block k (h k hk).1 (h k hk).2⟩
theorem Cells.mv {b o:Nat} {l:List Value} (h:Cells w X b o l) (v:Mv X w Y w'):Cells w' Y b o l:=by
 have hl:=h.lt;obtain⟨hx,cs,t,fr,hb,hc⟩:=h;obtain⟨h1,h2⟩:=v b hx hl;exact⟨h1,cs,t,fr,by rw [h2];exact hb,hc⟩
theorem Sl.mv {k:Nat} {v:Value} {rows:List (List Value)} (h:Sl w X k v rows) (m:Mv X w Y w'):Sl w' Y k v rows:=by
 obtain⟨h1,h2,base,cap,hv,hc,hr⟩:=h;exact⟨h1,h2,base,cap,hv,fun cU=>let⟨b,o,hb,jj⟩:=hc cU;⟨b,o,hb,jj.mv m⟩,hr⟩
theorem Sl.form {k:Nat} {v:Value} {rows:List (List Value)} (h:Sl w X k v rows): ∃b n c,v= .slice b n c:=let⟨_,_,b,c,hv,_⟩:=h;⟨b,_,c,hv⟩
theorem bH.mv {b:Nat} {cs:List Value} {ty:TypeId} (h:bH w X b cs ty) (m:Mv X w Y w'):bH w' Y b cs ty:=by
 obtain⟨h1,h2⟩:=m b h.1 (Array.getElem?_eq_some_iff.1 h.2).1;exact⟨h1,by rw [h2];exact h.2⟩
theorem mj.mv {κ:Type} {b:Nat} {kv:κ→Value} {es:List (jL κ)} {c:Nat} (h:mj w X b kv es c) (m:Mv X w Y w'):mj w' Y b kv es c:=by
 obtain⟨h1,h2⟩:=m b h.1 (Array.getElem?_eq_some_iff.1 h.2.1).1;exact⟨h1,by rw [h2];exact h.2.1,h.2.2⟩
theorem Own.mv {lo e k:Nat} {v:Value} {rows:List (List Value)} (h:Own w X lo e k v rows) (m:Mv X w Y w'):Own w' Y lo e k v rows:=by
 obtain⟨h1,h2,h3⟩:=h;refine⟨h1,⟨h2.1,?_⟩,fun g hg=>(m g (h3 g hg) (h2.lt g hg).2).1⟩;rcases h2.2 with h|⟨g,cap,cur,rfl,hb,hg,hr⟩
 ·exact .inl h
 ·exact .inr ⟨g,cap,cur,rfl,hb,by rw [(m g (h3 g rfl) (Array.getElem?_eq_some_iff.1 hg).1).2];exact hg,hr⟩
def ic (w:World) (X:XS) (k:Nat) (v:Value) (rd:World→XS→List Value→α→Prop) (xs:List α):Prop:=
 ∃rows,Sl w X k v rows∧rows.length=xs.length∧ ∀(i:Nat) l x,rows[i]? =some l→xs[i]? =some x→rd w X l x
def GK (rd:World→XS→List Value→α→Prop):Prop:= ∀{X Y:XS} {w w':World} {l:List Value} {x:α},rd w X l x→Mv X w Y w'→rd w' Y l x
theorem ic.mv {k:Nat} {v:Value} {rd:World→XS→List Value→α→Prop} {xs:List α} (h:ic w X k v rd xs) (hm:GK rd) (m:Mv X w Y w'):ic w' Y k v rd xs:=by
 obtain⟨rows,h1,h2,h3⟩:=h;exact⟨rows,h1.mv m,h2,fun i l x hl hx=>hm (h3 i l x hl hx) m⟩
theorem ic.nil {rd:World→XS→List Value→α→Prop} (w:World) (X:XS) (k:Nat):ic w X k (.slice none 0 0) rd []:=⟨[],Sl.nil w X k,rfl,by simp⟩
theorem ic.one {k:Nat} {v:Value} {rd:World→XS→List Value→α→Prop} {xs:List α} (h:ic w X k v rd xs):one v=true:=let⟨_,h1,_⟩:=h;h1.one
theorem ic.len {k:Nat} {v:Value} {rd:World→XS→List Value→α→Prop} {xs:List α} (h:ic w X k v rd xs):xs.length≤2^63-1:=by
 obtain⟨_,h1,h2,_⟩:=h;rw [←h2];exact h1.2.1
theorem Mv.refl (X:XS) (w:World):Mv X w X w:=fun _ hk _=>⟨hk,rfl⟩
theorem mv0:Mv X w X w:=Mv.refl _ _
theorem mv1 (h:aj X w Y w'):Mv X w Y w':=h.mv
theorem nq1 {l:List Value} :l.toArray.toList=l:=rfl
theorem nq2 {i:Nat} {a:Value} {l:List Value} :(a::l).take (i+1)=a::l.take i:=rfl
theorem nq3 {i:Nat} {a:Value} {l:List Value} :(a::l).drop (i+1)=l.drop i:=rfl
theorem nq4 {l:List Value} :l.take 0=[]:=rfl
theorem nq5 {l:List Value} :l.drop 0=l:=rfl
theorem nq6 {i:Nat} :([]:List Value).take i=[]:=List.take_nil
theorem nq7 {a:Value} {l:List Value} :(a::l).length=l.length+1:=rfl
theorem nq8:([]:List Value).length=0:=rfl
theorem nq9 {a:Value} {l m:List Value} :a::l++m=a::(l++m):=rfl
theorem nq0 {l:List Value} :[]++l=l:=rfl
theorem mv2 (h:aj X w Y w') (h':aj Y w' Z kq):Mv X w Z kq:=(h.trans h').mv
theorem Cells.abH {b o fo:Nat} {v:Value} {l:List Value} (h:Cells w X b o l) (hl:l[fo]? =some v):Cells w X b (o+fo) [v]:=by
 have hp:=h.part fo 1;have:(l.drop fo).take 1=[v]:=by
  obtain⟨cH,rfl⟩:=List.getElem?_eq_some_iff.1 hl;rw [jN cH,List.take_succ_cons,List.take_zero]
 rw [this] at hp;exact hp
section
variable {w0 : World} {X0 : XS}
theorem Li {S f fo sz b o:Nat} {l l':List Value} (h:Cells w0 X0 b o l) (hf:fieldInfo P S f=some (fo,sz)) (hz:(sz !=0)=true) (hl:(l.drop fo).take sz=l')
  (k: ∀o',o'=o+fo→Cells w0 X0 b o' l'→N (ptr b o')):aa P X w (aS S f fo sz (ptr b o)) N:=
 EJ hf (by simpa using hz) (k _ rfl (hl▸h.part fo sz))
theorem Av {S f fo b o:Nat} {v:Value} {l:List Value} (h:Cells w0 X0 b o l) (hf:fieldInfo P S f=some (fo,1)) (hl:l[fo]? =some v)
  (k: ∀o',o'=o+fo→Cells w0 X0 b o' [v]→N (ptr b o')):aa P X w (aS S f fo 1 (ptr b o)) N:=
 EJ hf zQ (k _ rfl (h.abH hl))
theorem afW {t:TypeId} {b o:Nat} {v:Value} {l:List Value} (h:Cells w0 X0 b o l) (m:Mv X0 w0 X w) (hi:jP P t=some (false,1)) (hl:l[0]? =some v) (k:N v):
  aa P X w (bb t (ptr b o)) N:=akg (h.mv m) hi hl k
theorem Lj {t:TypeId} {b o n:Nat} {l:List Value} (h:Cells w0 X0 b o l) (m:Mv X0 w0 X w) (hi:jP P t=some (true,n)) (hn:l.length=n) (k:N (.agg l.toArray)):
  aa P X w (gy t n (ptr b o)) N:=ada (h.mv m) hi hn k
theorem afU {enc:α→List Value} {t ty:TypeId} {k:Nat} {v:Value} {xs:List α} (h:Sl w0 X0 k v (xs.map enc))
  (ht:P.underlying t=some (.slice (P.elem t))) (n:N (.int .i64 xs.length)):aa P X w (cK t ty v) N:=by
 obtain⟨_,_,base,cap,rfl,_⟩:=h;exact bX (fun wa=>run_len_slice wa t ty base _ cap ht) (by rw [List.length_map];exact n)
theorem aki {t ty:TypeId} {k:Nat} {v:Value} {rd:World→XS→List Value→α→Prop} {xs:List α} (h:ic w0 X0 k v rd xs)
  (ht:P.underlying t=some (.slice (P.elem t))) (n:N (.int .i64 xs.length)):aa P X w (cK t ty v) N:=by
 obtain⟨rows,⟨_,_,base,cap,rfl,_⟩,h2,_⟩:=h;exact bX (fun wa=>run_len_slice wa t ty base _ cap ht) (by rw [h2];exact n)
theorem PX {t:TypeId} {k:Nat} {v:Value} {rows:List (List Value)} {i:Nat} {z:Int} {r:List Value} (h:Sl w0 X0 k v rows) (hr:rows[i]? =some r) (hz:z=i)
  (ht:P.underlying t=some (.slice (P.elem t))) (hs:(P.info? (P.elem t)).map (·.size)=some k)
  (n: ∀b o,Cells w0 X0 b o r→N (ptr b o)):aa P X w (Instr.indexAt t v (.int .i64 z)) N:=by
 obtain⟨h1,_,base,cap,rfl,hc,_⟩:=h;have hi:i<rows.length:=(List.getElem?_eq_some_iff.1 hr).1;obtain⟨b,o,rfl,jj⟩:=hc (by intro e;subst e;simp at hi);have hp:=jj.part (i*k) k;rw [Kh h1 hr] at hp;refine bX (fun wa=>?_) (n b (o+i*k) hp);subst hz;rw [run_indexAt_slice (h:=ht),if_pos zQ];cases hq:P.info? (P.elem t)with
 |none=>simp [hq] at hs
 |some inf=>
  have:inf.size=k:=by simpa [hq] using hs
  simp [sizeOf,typeInfo,hq,this,vT]
theorem afX {enc:α→List Value} {t:TypeId} {k:Nat} {v:Value} {xs:List α} {i:Nat} {z:Int} {x:α} (h:Sl w0 X0 k v (xs.map enc)) (hr:xs[i]? =some x)
  (hz:z=i) (ht:P.underlying t=some (.slice (P.elem t))) (hs:(P.info? (P.elem t)).map (·.size)=some k)
  (n: ∀b o,Cells w0 X0 b o (enc x)→N (ptr b o)):aa P X w (dD t k v (.int .i64 z)) N:=
 PX h (i:=i) (by rw [cr,hr];rfl) hz ht hs n
theorem T9 {t:TypeId} {k:Nat} {v:Value} {rd:World→XS→List Value→α→Prop} {xs:List α} {i:Nat} {z:Int} {x:α} (h:ic w0 X0 k v rd xs) (hr:xs[i]? =some x)
  (hz:z=i) (ht:P.underlying t=some (.slice (P.elem t))) (hs:(P.info? (P.elem t)).map (·.size)=some k)
  (n: ∀b o l,Cells w0 X0 b o l→rd w0 X0 l x→N (ptr b o)):aa P X w (dD t k v (.int .i64 z)) N:=by
 obtain⟨rows,h1,h2,h3⟩:=h;have hi:i<rows.length:=by rw [h2];exact(List.getElem?_eq_some_iff.1 hr).1
 have hl:rows[i]? =some rows[i]:=bB hi;exact PX h1 hl hz ht hs fun b o hc=>n b o _ hc (h3 i _ _ hl hr)
theorem aiP {t:TypeId} {xo yo:Operand} {k:Nat} {v:Value} {rows:List (List Value)} (h:Sl w0 X0 k v rows) (ht:P.underlying t=some (.slice (P.elem t)))
  (hT:v= .slice none 0 0→rows=[]→N (.bool true)) (hF:N (.bool false)):aa P X w (aJ .eql t xo yo v (.slice none 0 0)) N:=by
 rcases h.src with⟨rfl,hr⟩|⟨a,cap,rfl,_⟩
 ·exact WL ht (hT rfl hr)
 ·exact WL ht hF
end
theorem Q8 {xs:List α} {i:Nat} (h:i<xs.length): ∃x,xs[i]? =some x∧xs.drop i=x::xs.drop (i+1):=
 ⟨xs[i],bB h,jN h⟩
theorem ej (xs:List α) (i:Nat):(i<xs.length∧ ∃x,xs[i]? =some x∧xs.drop i=x::xs.drop (i+1))∨(xs.length≤i∧xs.drop i=[]):=by
 rcases Nat.lt_or_ge i xs.length with h|h
 ·exact .inl ⟨h,Q8 h⟩
 ·exact .inr ⟨h,gL h⟩
theorem akj {l l':List Value} {o n:Nat} {M:Value→Prop} (hl:(l.drop o).take n=l') (k:M (.agg l'.toArray)):un (ef (.agg l.toArray) o n) M:=
 adg (hl▸k)
theorem akk {l l' cs:List Value} {o:Nat} {M:Value→Prop} (hl:b8 l o cs=l') (k:M (.agg l'.toArray)):
  un (aF (List.toArray (b8 l o cs))) M:=by subst hl;exact k
theorem Ui {v:Value} {l:List Value} (h:one v=true) (k:l.all one=true):(v::l).all one=true:=by simp [h,k]
theorem Yc:List.all ([]:List Value) one=true:=rfl
theorem aiQ {l:List Value} {A:Prop} (h:l.all one=true) (k:A):bq (List.all (Array.toList (ad (.agg l.toArray))) one) A:=abB h k
theorem aiR {l:List Value} {A:Prop} (h:l.all one=true) (k:A):bq (List.all l one) A:=abB h k
theorem afR {l:List Value} {i:Nat} {v:Value} (hi:l[i]? =some v) (h:N v):aa P X w (aH (.tuple l.toArray) i) N:=YA (by simpa using hi) h
theorem gJ {f:FuncId} {args:Array Value} {b:Bool} {N:Value→World→XS→Prop}
  (h:Ct P f args w X nX fun v _ _=>v= .bool b) (hf:enters P f=true) (hX: ∀k,X k→k<w.heap.size)
  (hT:b=true→ ∀w' X',aj X w X' w'→N (.bool true) w' X') (hF:b=false→ ∀w' X',aj X w X' w'→N (.bool false) w' X'):eC P R X w m f args N:=by
 refine cJ h hf hX fun v wa w' X' hv _ _ hs=>?_;subst hv;cases b
 ·exact hF rfl w' X' hs
 ·exact hT rfl w' X' hs
theorem dy {f:FuncId} {args:Array Value} {u:Value} {N:Value→World→XS→Prop}
  (h:Ct P f args w X nX fun v _ _=>v=u) (hf:enters P f=true) (hX: ∀k,X k→k<w.heap.size)
  (k: ∀w' X',aj X w X' w'→N u w' X'):eC P R X w m f args N:=by
 refine cJ h hf hX fun v wa w' X' hv _ _ hs=>?_;subst hv;exact k w' X' hs
theorem akl {t ty:TypeId} {a b:Int} (h:N (.int .i64 (min a b))):aa P X w (mD #[t,t] ty #[.int .i64 a,.int .i64 b]) N:=
 bX (fun wa=>by
  simp only [mD,List.foldlM];by_cases hc:b<a
  ·have:min a b=b:=by omega
   simp [CY,hc,this]
  ·have:min a b=a:=by omega
   simp [CY,hc,this]) h
theorem abI {src dst:TypeId} {k q:IntKind} {n:Int} (hs:(P.underlying src).isSome=true) (hd:P.underlying dst=some (.int k))
  (h:N (.int k (k.wrap n))):aa P X w (kV k src dst (.int q n)) N:=bX (fun wa=>by
   have e:P.intKind dst=k:=by simp [Program.intKind,hd]
   have:=run_convert_int (P:=P) wa src dst q n hs (by rw [e];exact hd);rw [e] at this;exact this) h
theorem akm {src dst:TypeId} {q:IntKind} {n:Int} (hs:(P.underlying src).isSome=true) (hd:P.underlying dst=some (.float .f64))
  (h:N (.float .f64 (floatOfInt .f64 n))):aa P X w (yC src dst (.int q n)) N:=bX (fun wa=>run_convert_int_float wa src dst q .f64 n hs hd) h
theorem akn {t e:TypeId} {n:Nat} {l:List Value} {z:Int} {i:Nat} {v:Value} (ht:P.underlying t=some (.array n e)) (he:jP P e=some (false,1)) (hz:z=i) (hn:i<n) (hl:l[i]? =some v)
  (k:N v):aa P X w (xf t n e (.agg l.toArray) (.int .i64 z)) N:=by
 subst hz;unfold jP at he;split at he
 ·rename_i d q hu l7;simp only [aB,dg] at he;refine bX (v:=v) (fun wa=>?_) k;have vU:(isAgg e).run P wa= .ok false wa:=by cases d<;>simp_all [isAgg,run_underlying hu]
  simp [xf,xP,asIntOf,run_underlying ht,hn,sizeOf,typeInfo,l7,he.2,part,vU,hl]
 ·cases he
theorem ako {op:BinOp} {t:TypeId} {x y r:Nat} (h:floatBits op .f64 x y=some r) (k:N (.float .f64 r)):aa P X w (binOp op t (.float .f64 x) (.float .f64 y)) N:=
 bX (fun wa=>run_float_arith wa op t .f64 x y r h) k
theorem JR (s:ByteArray):s.size=s.data.toList.length:=by rw [dC];rfl
theorem akp {t:TypeId} {s:ByteArray} {z:Int} {i:Nat} {b:UInt8} (hb:s.data.toList[i]? =some b) (hz:z=i) (ht:P.underlying t=some .string) (k:N (.int .u8 b.toNat)):
  aa P X w (xP t (.string s) (.int .i64 z)) N:=by
 subst hz;have hi:i<s.data.toList.length:=(List.getElem?_eq_some_iff.1 hb).1;have l7:i<s.size:=by rw [JR];exact hi
 refine bX (v:=.int .u8 b.toNat) (fun wa=>?_) k;rw [run_index_string wa t s .i64 i ht,dif_pos zQ];have:s[i]=b:=by
  have h2:s.data.toList[i]=b:=(List.getElem?_eq_some_iff.1 hb).2;rw [←h2];rfl
 simp [this]
theorem WR (f:Ieee.Format) (s:Bool) (m:Nat) (p:Int):(f.read (f.nearest s m p)).isNaN=false:=by
 have hle: ∃r,f.nearest s m p=f.word s r∧r≤f.infRung:=by
  unfold Ieee.Format.nearest;split
  ·exact⟨0,rfl,Nat.zero_le _⟩
  ·exact⟨_,rfl,Nat.min_le_right _ _⟩
 obtain⟨r,hr,hle⟩:=hle;have cH:=f.infRung_lt;have hm:f.word s r % f.signWeight=r:=by
  unfold Ieee.Format.word;split
  ·rw [Nat.add_mod_left,ek zQ]
  ·rw [ek zQ]
 rw [hr];unfold Ieee.Format.read;simp only [hm];split
 ·rfl
 ·split
  ·rfl
  ·split
   ·rfl
   ·omega
def chain (p:α→Bool) (r:α→α→Bool):Option α→List α→Bool
 |_,[]=>true
 |none,x::l=>p x&&chain p r (some x) l
 |some y,x::l=>p x&&r y x&&chain p r (some x) l
def pK (xs:List α) (i:Nat):Option α:=if i=0 then none else xs[i-1]?
theorem oy {xs:List α} {i:Nat} {x:α} (h:xs[i]? =some x):pK xs (i+1)=some x:=by simp [pK,h]
theorem LF {xs:List α} {i:Nat} (h:i<xs.length):(i=0∧pK xs i=none)∨(0<i∧ ∃y,xs[i-1]? =some y∧pK xs i=some y):=by
 by_cases h0:i=0
 ·exact .inl ⟨h0,by simp [pK,h0]⟩
 ·have:xs[i-1]? =some xs[i-1]:=bB zQ;exact .inr ⟨by omega,_,this,by simp [pK,h0,this]⟩
variable {P : Program} {R : Ending → World → Prop} {X : XS} {w : World} {m : Bool}
theorem foldl_set (l:List Value): ∀(n:Nat) (cs:Array Value),n+l.length≤cs.size→
  ((l.zipIdx n).foldl (fun (cs:Array Value) (p:Value×Nat)=>cs.setIfInBounds p.2 p.1) cs).toList=cs.toList.take n++l++cs.toList.drop (n+l.length):=by
 induction l with
 |nil=>intro n cs h;simp
 |cons x r ih=>
  intro n cs h;simp only [aY] at h;simp only [List.zipIdx_cons,List.foldl_cons];rw [ih (n+1) _ (by simp;omega)];have hn:n<cs.toList.length:=by simp;omega
  simp only [Array.toList_setIfInBounds,aY];rw [List.take_set,List.drop_set_of_lt zQ];have:(cs.toList.take (n+1)).set n x=cs.toList.take n++[x]:=by
   rw [List.take_add_one,bB hn];simp only [Option.toList_some];rw [List.set_append_right _ _ (by simp;omega)];have hm:(cs.toList.take n).length=n:=by rw [List.length_take];omega
   rw [hm,Nat.sub_self,List.set_cons_zero]
  rw [this];simp only [List.append_assoc,List.cons_append,cT];rw [show n+1+r.length=n+(r.length+1)by omega]
theorem He {k:Nat} {cs:Array Value} {x:Value} (hx:x.cells.size=k) (hc:cs.size=k):
  oC (fun i=>some (i*k,k)) cs [(0,x)]=some x.cells:=by
 unfold oC;simp only [Nat.zero_mul,fp,hx,ne_eq,not_true_eq_false,decide_false,hc,Nat.lt_irrefl,gt_iff_lt,Bool.or_self,bu,if_false];unfold oC;simp only [aB];apply Array.ext';have:=foldl_set x.cells.toList 0 cs (by simp;omega);rw [←Array.toList_zipIdx,Array.foldl_toList] at this;simp only [fp,List.take_zero,cT,dC] at this;rw [gL (by simp;omega),bZ] at this;exact this
def iu (v:Value):XS:=fun g=>v.ownBlock=some g
def oQ (P:Program) (t e k bytes:Nat):Bool:=match P.underlying t,P.info? e with
 |some (.slice e'),some i=>e'==e&&i.size==k&&i.bytes==bytes&&(match i.zero with|some z=>z.cells.size==k|none=>false)&&decide (0<k)&&decide (k≤2^20)
 |_,_=>false
theorem mN {t e k bytes:Nat} (h:oQ P t e k bytes=true):P.underlying t=some (.slice e)∧0<k∧k≤2^20∧
  ∃z:Value,(P.info? e).bind (fun i=>i.zero.map fun z=>(i.size,i.bytes,z))=some (k,bytes,z)∧(P.info? e).bind (fun i=>i.zero.map fun z=>(i.size,z))=some (k,z)∧z.cells.size=k:=by
 unfold oQ at h;split at h
 ·rename_i e' i hu hi;simp only [aA,beq_iff_eq,decide_eq_true_eq] at h;obtain⟨⟨⟨⟨⟨rfl,h2⟩,h3⟩,h4⟩,h5⟩,h6⟩:=h;cases hz:i.zero with
  |none=>simp [hz] at h4
  |some z=>
   simp only [hz,beq_iff_eq] at h4;exact⟨hu,h5,h6,z,by simp [hi,hz,h2,h3],by simp [hi,hz,h2],h4⟩
 ·cases h
section
variable {w0 : World} {X0 : XS} {t ty e k bytes : Nat} {v x s : Value} {rows eo : List (List Value)} {row : List Value} {N : Value → World → XS → Prop}
theorem adh (own:Own w X w0.heap.size e k v rows) (hs:aj X0 w0 X w) (h0: ∀k,X0 k→k<w0.heap.size) (he:oQ P t e k bytes=true) (hx:x.cells.toList=row) (hk:(row.length==k)=true)
  (h1:row.all one=true) (hb:(rows.length+1)*bytes≤140737488355328) (hl:rows.length+1≤2^63-1)
  (n: ∀v' w' X',aj X0 w0 X' w'→Own w' X' w0.heap.size e k v' (rows++[row])→eD (iu v) X w X' w'→(v'.ownBlock=v.ownBlock∨ ∃g,v'.ownBlock=some g∧w.heap.size≤g)→N v' w' X'):
  eV P R X w m (gU t e k 1 #[(0,x)]) fun s w1 X1=>eV P R X1 w1 true (gH t e k bytes ty v s) N:=by
 obtain⟨hu,jQ,uY,z,hi,hz,vu⟩:=mN he;have ai:row.length=k:=by simpa using hk
 have Il:x.cells.size=k:=by rw [←ai,←hx,dC]
 refine C6 (rows:=[row]) x.cells z hs.has hu hz zQ zQ ?_ (by simpa using ai) rfl (by simpa using hx) fun s w1 X1 aq uZ=>?_
 ·simp only [Nat.one_mul];exact He Il (by simp)
 ·have fv:w0.heap.size≤w1.heap.size:=ah hs.kp.size aq.kp.size;refine Ax (eo:=[row]) z hu hi vu jQ aq.has fv (own.since aq) uZ.sl (by simpa using h1) (by simpa using hb) (by simpa using hl) fun v2 w2 X2 hg ho fm=>?_;have hd: ∀g,v.ownBlock=some g→w0.heap.size≤g:=fun g hg=>(own.ge hg).1;refine n v2 w2 X2 ((hs.trans aq).grown hg fun g hg0 he=>?_) ho ?_ ?_
  ·have:=hd g he.symm;have:=h0 g hg0;omega
  ·exact(eD.tO aq (iu v)).trans (hg.dM.mono fun k _ hk=>hk.symm)
  ·rcases fm with h|⟨g,h,eh⟩
   ·exact .inl h
   ·exact .inr ⟨g,h,ah aq.kp.size eh⟩
theorem Fc {l:List Value} (own:Own w X w0.heap.size e k v rows) (hs:aj X0 w0 X w) (h0: ∀k,X0 k→k<w0.heap.size) (he:oQ P t e k bytes=true) (hk:(l.length==k)=true)
  (h1:l.all one=true) (hb:(rows.length+1)*bytes≤140737488355328) (hl:rows.length+1≤2^63-1)
  (n: ∀v' w' X',aj X0 w0 X' w'→Own w' X' w0.heap.size e k v' (rows++[l])→eD (iu v) X w X' w'→(v'.ownBlock=v.ownBlock∨ ∃g,v'.ownBlock=some g∧w.heap.size≤g)→N v' w' X'):
  eV P R X w m (gU t e k 1 #[(0,.agg l.toArray)]) fun s w1 X1=>eV P R X1 w1 true (gH t e k bytes ty v s) N:=adh own hs h0 he rfl hk h1 hb hl n
theorem Lv (own:Own w X w0.heap.size e k v rows) (hs:aj X0 w0 X w) (h0: ∀k,X0 k→k<w0.heap.size) (he:oQ P t e k bytes=true) (hk:(k==1)=true)
  (ho:one x=true) (hb:(rows.length+1)*bytes≤140737488355328) (hl:rows.length+1≤2^63-1)
  (n: ∀v' w' X',aj X0 w0 X' w'→Own w' X' w0.heap.size e k v' (rows++[[x]])→eD (iu v) X w X' w'→(v'.ownBlock=v.ownBlock∨ ∃g,v'.ownBlock=some g∧w.heap.size≤g)→N v' w' X'):
  eV P R X w m (gU t e k 1 #[(0,x)]) fun s w1 X1=>eV P R X1 w1 true (gH t e k bytes ty v s) N:=by
 refine adh (row:=[x]) own hs h0 he ?_ (by simpa using (beq_iff_eq.1 hk).symm) (by simpa using ho) hb hl n;cases x<;>first|rfl|cases ho
theorem xv (own:Own w X w0.heap.size e k v rows) (hs:aj X0 w0 X w) (h0: ∀k,X0 k→k<w0.heap.size) (he:oQ P t e k bytes=true) (src:Sl w X k s eo) (h1: ∀r∈eo,∀u∈r,one u=true)
  (hb:(rows.length+eo.length)*bytes≤140737488355328) (hl:rows.length+eo.length≤2^63-1)
  (n: ∀v' w' X',aj X0 w0 X' w'→Own w' X' w0.heap.size e k v' (rows++eo)→eD (iu v) X w X' w'→(v'.ownBlock=v.ownBlock∨ ∃g,v'.ownBlock=some g∧w.heap.size≤g)→N v' w' X'):
  eV P R X w true (gH t e k bytes ty v s) N:=by
 obtain⟨hu,jQ,uY,z,hi,hz,vu⟩:=mN he;refine Ax (eo:=eo) z hu hi vu jQ hs.has hs.kp.size own src h1 hb hl fun v2 w2 X2 hg ho fm=>?_;have hd: ∀g,v.ownBlock=some g→w0.heap.size≤g:=fun g hg=>(own.ge hg).1;refine n v2 w2 X2 (hs.grown hg fun g hg0 he=>?_) ho (hg.dM.mono fun k _ hk=>hk.symm) fm;have:=hd g he.symm;have:=h0 g hg0;omega
theorem DH (hX: ∀k,X k→k<w.heap.size) (hu:P.underlying t=some (.slice e)) (hz:(P.info? e).map (·.size)=some k)
  (n: ∀v w' X',aj X w X' w'→Own w' X' w.heap.size e k v []→N v w' X'):eV P R X w m (gU t e k 0 #[]) N:=ade hX hu hz n
end
theorem afY {t e k bytes len:Nat} {parts:Array (Nat×Value)} {rows:List (List Value)} {N:Value→World→XS→Prop} (cells:Array Value) (z:Value) (hX: ∀k,X k→k<w.heap.size) (he:oQ P t e k bytes=true)
  (hz:(P.info? e).bind (·.zero)=some z) (Ki:0<len*k) (PT:len*k≤2^24)
  (h:oC (fun i=>some (i*k,k)) ((xQ (len*k)).map (z.cells[· % z.cells.size]!)) parts.toList=some cells)
  (Hc: ∀r∈rows,r.length=k) (hlen:rows.length=len) (hc:cells.toList=rows.flatten)
  (n: ∀v w' X',aj X w X' w'→Own w' X' w.heap.size e k v rows→N v w' X'):eV P R X w m (gU t e k len parts) N:=by
 obtain⟨hu,jQ,uY,z',hi,zS,vu⟩:=mN he;have:z'=z:=by
  cases hq:P.info? e with
  |none=>simp [hq] at hz
  |some ie=>cases qf:ie.zero<;>simp_all
 subst this;exact C6 cells z' hX hu zS Ki PT h Hc hlen hc n
end Go.dL
