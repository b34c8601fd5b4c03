/-
 Part 2 of the proof: what the last text leans on.
-/
import Derived.Laws.Rows
import Derived.Laws.Pointers
import Derived.Deep.MidRow
import Derived.Laws.StructEq
import Derived.Maps.AppendAt
import Derived.Laws.OwnMore
import Derived.Great.BuildSlice
import Derived.Maps.RangeRun
import Derived.Laws.FloatArith
import Derived.Test.YtfndblbeikocdaaGreatY1
open Go.Result renaming andThen_ok → bk
open Option.some renaming injEq → ax
open Go.Sem renaming run_bind → bL, run_pure → cH, run → qH
open Nat renaming le_trans → af, lt_of_lt_of_le → aI, le_refl → bK, zero_add → ee, mod_eq_of_lt → wu
open Go.Value renaming int → aU, cells → aa, ownBlock → ec, agg → aj
open Bool renaming and_eq_true → aV, false_eq_true → bh, not_eq_true' → dH
open Option renaming map_some → bH, bind_some → cJ
open Go.Instr renaming checkKey → fw, loadAt → gP, fill → mZ, sameBits → kd, buildSlice → kH, findNow → gX, findKey → pq, extract → aC, box → cE, sameNow → tA, findAsking → qp, makeMap → gZ, mapUpdate → dE, range → wx, entry → kI, index → wy, sureAddr → iY, keyThatStays → tW
open Prod.mk renaming injEq → dr
open PUnit renaming unit → ke
open List renaming toList_toArray → ey, getElem?_eq_getElem → bT, length_cons → bP, map_cons → bB, mem_append_left → bX, mem_append_right → dw, getD → ui, drop_of_length_le → jT, drop_eq_getElem_cons → fz, mem_append → qW, nil_append → fg, mem_singleton → en, flatMap_cons → ve, mem_cons_self → di, mem_cons_of_mem → bG, getElem?_eq_none → iU, getElem?_take → jN, getElem?_cons_zero → iz, flatten_cons → dP, eq_nil_of_length_eq_zero → fD, length_append → ae, append_nil → fh, findIdx?_cons → gS, getElem?_map → dQ, map_append → bo, nodup_append → vf
open Go.Op renaming intCmp → oa, bytesLess → cG, floatCmp → oF, equalIn → ig, stringOp → rJ, unary → aX, eqFields → rK, intArith → wJ
open Go.Builtin renaming len_ → eT, delete_ → iQ, append_ → dL, min_ → je, min2 → Bi
open BitVec renaming ofInt → bY
open Array renaming length_toList → dJ, getElem?_setIfInBounds → eS, range → wK, replicate → jG, getElem?_append → rL, getElem?_replicate → pJ
open Go.ByteArray renaming toList_eq → gK
open ForInStep renaming yield → nQ
open Go.World renaming ownsRow_lit → vg
set_option linter.unusedVariables false
set_option linter.unusedSimpArgs false
namespace Go.bu
section
variable {P : Program}
theorem Bj {X:XS} {w w':World} : ∀k,X k→grow X w w' k:=fun _ h=>.inl h
theorem Pp {m:Bool} {X:XS} {w:World} {n n':Value→World→XS→Prop} {p p':List PanicEntry→World→XS→Prop} {r:Result Next} (h:jt P m X w n p r)
  (hn: ∀v w' X',(∀k,X k→X' k)→n v w' X'→n' v w' X') (hp: ∀c w' X',(∀k,X k→X' k)→p c w' X'→p' c w' X'):jt P m X w n' p' r:=by
 cases r with
 |ok x w'=>
  cases x<;>simp only [jt] at h⊢
  case value v=>exact⟨h.1,hn _ _ _ Bj h.2⟩
  case skip=>exact⟨h.1,hn _ _ _ Bj h.2⟩
  case enter f args=>
   refine⟨h.1,h.2.mono fun e mN he=>?_⟩;cases e with
   |returned v=>exact⟨he.1,hn _ _ _ Bj he.2⟩
   |panicked c=>exact⟨he.1,hp _ _ _ Bj he.2⟩
   |outgrown=>exact he
 |halt x w'=>
  cases x<;>simp only [jt] at h⊢
  case panic v=>exact⟨h.1,hp _ _ _ Bj h.2⟩
theorem adk {env:Env} {d s:Nat} {v:Value} (h: ¬s=d):lE env d v s=env s:=ga _ _ h
theorem abj {env:Env} {d:Option Nat} {s:Nat} {v:Value} (h: ¬s∈d.toList):Gz env d v s=env s:=by
 cases d with
 |none=>rfl
 |some d=>exact ga _ _ (by simpa using h)
theorem Mh: ∀(l:List TI) {ik KY:List PanicEntry→Env→World→XS→Prop} {next next':Env→World→XS→Prop} {env:Env} {w:World} {X:XS},
  gH P ik next l env w X→
  (∀e w' X',(∀k,X k→X' k)→(∀s,¬s∈l.flatMap TI.wr→e s=env s)→next e w' X'→next' e w' X')→
  (∀c e w' X',(∀k,X k→X' k)→(∀s,¬s∈l.flatMap TI.wr→e s=env s)→ik c e w' X'→KY c e w' X')→gH P KY next' l env w X
 |[],_,_,_,_,_,_,_,h,hn,_=>hn _ _ _ (fun _ h=>h) (fun _ _=>rfl) h
 |i::l,ik,KY,next,next',env,w,X,h,hn,hp=>by
  have step: ∀(W6:Env) (w1:World) (X1:XS),(∀k,X k→X1 k)→(∀s,¬s∈i.wr→W6 s=env s)→gH P ik next l W6 w1 X1→gH P KY next' l W6 w1 X1:=by
   intro W6 w1 X1 J8 he1 h1;refine Mh l h1 (fun e w' X' hX he hq=>hn e w' X' (fun k hk=>hX k (J8 k hk)) (fun s hs=>?_) hq) (fun c e w' X' hX he hq=>hp c e w' X' (fun k hk=>hX k (J8 k hk)) (fun s hs=>?_) hq)
   ·simp only [ve,qW,not_or] at hs;rw [he s hs.2,he1 s hs.1]
   ·simp only [ve,qW,not_or] at hs;rw [he s hs.2,he1 s hs.1]
  have pst: ∀c w1 X1,(∀k,X k→X1 k)→ik c env w1 X1→KY c env w1 X1:=fun c w1 X1 J8 hq=>hp c env w1 X1 J8 (fun _ _=>rfl) hq;have st1: ∀(d:Nat) (v:Value) (w1:World) (X1:XS),i.wr=[d]→(∀k,X k→X1 k)→gH P ik next l (lE env d v) w1 X1→gH P KY next' l (lE env d v) w1 X1:=
   fun d v w1 X1 hw J8 h1=>step _ _ _ J8 (fun s hs=>adk (by rw [hw] at hs;simpa using hs)) h1
  have stO: ∀(d:Option Nat) (v:Value) (w1:World) (X1:XS),i.wr=d.toList→(∀k,X k→X1 k)→gH P ik next l (Gz env d v) w1 X1→gH P KY next' l (Gz env d v) w1 X1:=
   fun d v w1 X1 hw J8 h1=>step _ _ _ J8 (fun s hs=>abj (by rw [hw] at hs;exact hs)) h1
  cases i with
  |Ky b=>exact eQ.2 ⟨(eQ.1 h).1,step _ _ _ (fun _ h=>h) (fun _ _=>rfl) (eQ.1 h).2⟩
  |set d e=>exact st1 d _ _ _ rfl (fun _ h=>h) h
  |box b n e=>exact eQ.2 ⟨(eQ.1 h).1,st1 b _ _ _ rfl (fun _ h=>h) (eQ.1 h).2⟩
  |put b off n e=>
   have h2:=eQ.1 (eQ.1 h).2;exact eQ.2 ⟨(eQ.1 h).1,eQ.2 ⟨h2.1,st1 b _ _ _ rfl (fun _ h=>h) h2.2⟩⟩
  |Cr b e=>exact eQ.2 ⟨(eQ.1 h).1,st1 b _ _ _ rfl (fun _ h=>h) (eQ.1 h).2⟩
  |QL b off e=>exact eQ.2 ⟨(eQ.1 h).1,st1 b _ _ _ rfl (fun _ h=>h) (eQ.1 h).2⟩
  |fill b n e=>
   have h2:=eQ.1 (eQ.1 h).2;exact eQ.2 ⟨(eQ.1 h).1,eQ.2 ⟨h2.1,st1 b _ _ _ rfl (fun _ h=>h) h2.2⟩⟩
  |rd d op ty ss=>
   obtain⟨v,h1,h2⟩:=h;exact⟨v,h1,st1 d _ _ _ rfl (fun _ h=>h) h2⟩
  |zp d op ty ss m=>exact fun wa C8=>Pp (h wa C8) (fun v w' X' hX hq=>stO d v w' X' rfl hX hq) (fun c w' X' hX hq=>pst c w' X' hX hq)
  |QM g want d e=>exact st1 d _ _ _ rfl (fun _ h=>h) h
  |Yl g want d op ty ss=>
   obtain⟨v,h1,h2,h3⟩:=h;exact⟨v,h1,h2,st1 d _ _ _ rfl (fun _ h=>h) h3⟩
  |QN g want d op ty ss m=>
   exact⟨fun hg wa C8=>Pp (h.1 hg wa C8) (fun v w' X' hX hq=>stO d v w' X' rfl hX hq) (fun c w' X' hX hq=>pst c w' X' hX hq),fun hg=>stO d _ _ _ rfl (fun _ h=>h) (h.2 hg)⟩
theorem Sv {M:List Nat} {e env:Env} {s:Nat} (h:s∈M):merge M e env s=e s:=by simp [merge,MX.2 h]
theorem B1 {M:List Nat} {e env:Env} {s:Nat} (h: ¬s∈M):merge M e env s=env s:=by
 have:Jx M s=false:=by
  cases hx:Jx M s with
  |false=>rfl
  |true=>exact absurd (MX.1 hx) h
 simp [merge,this]
theorem mT: ∀(t:T) {K K':na} {env:Env} {w:World} {X:XS},den P t K env w X→
  (∀ex e w' X',(∀k,X k→X' k)→(∀s,¬s∈t.wr→e s=env s)→K ex e w' X'→K' ex e w' X')→den P t K' env w X
 | .Og l,K,K',env,w,X,h,hk=>Mh l h (fun e w' X' hX he hq=>hk _ e w' X' hX he hq) (fun c e w' X' hX he hq=>hk _ e w' X' hX he hq)
 | .seq a b,K,K',env,w,X,h,hk=>by
  refine mT a (K:=na.U7 (fun e w X=>den P b K e w X) K) h fun ex e w' X' hX he hq=>?_;have AQ: ∀s,¬s∈(T.seq a b).wr→e s=env s:=fun s hs=>he s (fun hc=>hs (bX _ hc));cases ex with
  |normal=>
   refine mT b (K:=K) hq fun ex2 e2 w2 X2 Fw he2 hq2=>hk ex2 e2 w2 X2 (fun k hk=>Fw k (hX k hk)) (fun s hs=>?_) hq2;rw [he2 s (fun hc=>hs (dw _ hc)),AQ s hs]
  |exit i=>exact hk _ e w' X' hX AQ hq
  |goto i=>exact hk _ e w' X' hX AQ hq
  |ret=>exact hk _ e w' X' hX AQ hq
  |panic c=>exact hk _ e w' X' hX AQ hq
  |outgrown=>exact hk _ e w' X' hX AQ hq
 | .ite c a b,K,K',env,w,X,h,hk=>by
  simp only [den,au] at h⊢;split at h
  ·refine⟨fun ht=>mT a (h.1 ht) fun ex e w' X' hX he hq=>hk ex e w' X' hX (fun s hs=>he s (fun hc=>hs (bX _ hc))) hq,
    fun ht=>mT b (h.2 ht) fun ex e w' X' hX he hq=>hk ex e w' X' hX (fun s hs=>he s (fun hc=>hs (dw _ hc))) hq⟩
  ·exact h
 | .alt a b,K,K',env,w,X,h,hk=>by
  exact⟨mT a h.1 fun ex e w' X' hX he hq=>hk ex e w' X' hX (fun s hs=>he s (fun hc=>hs (bX _ hc))) hq,
   mT b h.2 fun ex e w' X' hX he hq=>hk ex e w' X' hX (fun s hs=>he s (fun hc=>hs (dw _ hc))) hq⟩
 | .dK id a,K,K',env,w,X,h,hk=>by
  refine mT a (K:=na.dK id K) h fun ex e w' X' hX he hq=>?_;cases ex with
  |exit i=>
   simp only [na.dK] at hq⊢;split
   ·rename_i hi;rw [if_pos hi] at hq;exact hk _ e w' X' hX he hq
   ·rename_i hi;rw [if_neg hi] at hq;exact hk _ e w' X' hX he hq
  |normal=>exact hk _ e w' X' hX he hq
  |goto i=>exact hk _ e w' X' hX he hq
  |ret=>exact hk _ e w' X' hX he hq
  |panic c=>exact hk _ e w' X' hX he hq
  |outgrown=>exact hk _ e w' X' hX he hq
 | .loop M C a,K,K',env,w,X,h,hk=>by
  obtain⟨J,h0,hJ⟩:=h;refine⟨J,h0,fun n e w' X' hX hj=>?_⟩;refine mT a (K:=na.U7 (fun e' mN rl=> ∃m,m<n∧J m (C.map e') mN rl) K) (hJ n e w' X' hX hj) fun ex e2 w2 X2 Fw he2 hq=>?_;have lx: ∀k,X k→X2 k:=fun k hk=>Fw k (hX k hk);have AQ: ∀s,¬s∈(T.loop M C a).wr→e2 s=env s:=fun s hs=>by
   simp only [T.wr,qW,not_or] at hs;rw [he2 s hs.2];exact B1 hs.1
  cases ex with
  |normal=>exact hq
  |exit i=>exact hk _ e2 w2 X2 lx AQ hq
  |goto i=>exact hk _ e2 w2 X2 lx AQ hq
  |ret=>exact hk _ e2 w2 X2 lx AQ hq
  |panic c=>exact hk _ e2 w2 X2 lx AQ hq
  |outgrown=>exact hk _ e2 w2 X2 lx AQ hq
 | .exit id,K,K',env,w,X,h,hk=>hk _ _ _ _ (fun _ h=>h) (fun _ _=>rfl) h
 | .ret,K,K',env,w,X,h,hk=>hk _ _ _ _ (fun _ h=>h) (fun _ _=>rfl) h
 | .skip,K,K',env,w,X,h,hk=>hk _ _ _ _ (fun _ h=>h) (fun _ _=>rfl) h
theorem abk {Q:Exit→Act→World→Prop} {a:Act} {w:World} {c:Code} (I:Nat→Act→World→Prop) (h₀: ∃n,I n a w)
  (round: ∀n a w,I n a w→c.wp P (Exit.then (fun a' w'=> ∃m,m<n∧I m a' w') Q) a w):(Code.loop c).wp P Q a w:=by
 intro b k cs;have key: ∀n a w,I n a w→ ∃e a' w',Q e a' w'∧Arrives P (lone (b.at a (.code c:: .inLoop c::k)) cs w) b k cs e a' w':=by
  intro n
  induction n using Nat.strongRecOn with
  |_ n ih=>
   intro a w hI;obtain⟨e,a₁,w₁,hq,Hf⟩:=round n a w hI b (.inLoop c::k) cs;cases e with
   |normal=>
    obtain⟨m,cK,hI₁⟩:=hq;obtain⟨e₂,a₂,w₂,hq₂,harr₂⟩:=ih m cK a₁ w₁ hI₁;exact⟨e₂,a₂,w₂,hq₂,.of_steps (Steps.trans Hf (.one step_inLoop)) harr₂⟩
   |exit id=>exact⟨_,a₁,w₁,hq,.pass (x:=.inLoop c) rfl (fun _ _=>.inl (by simp)) Hf⟩
   |goto l=>exact⟨_,a₁,w₁,hq,.pass (x:=.inLoop c) rfl (fun _ _=>.inl (by simp)) Hf⟩
   |ret=>exact⟨_,a₁,w₁,hq,.pass (x:=.inLoop c) rfl (fun _ _=>.inl (by simp)) Hf⟩
   |panic ch=>exact⟨_,a₁,w₁,hq,.pass (x:=.inLoop c) rfl (fun _ _=>.inl (by simp)) Hf⟩
   |outgrown=>exact⟨_,a₁,w₁,hq,.pass (x:=.inLoop c) rfl (fun _ _=>.inl (by simp)) Hf⟩
 obtain⟨n,h₀⟩:=h₀;obtain⟨e,a',w',hq,Hf⟩:=key n a w h₀;exact⟨e,a',w',hq,.of_steps (.one step_loop) Hf⟩
end
def QP (pl:bz) (ds:Bk) (K:na):Exit→Act→World→Prop
 | .panic ch,a,w=>a.defers=ds.ds∧ ∃env X w0,Kp X w0 w∧K (.panic ch) env w0 X∧ug pl ds env X a w
 | .outgrown,_,_=>False
 |e,a,w=> ∃env X w0,eP pl ds .start env X w0 a w∧K e env w0 X
section
variable {P : Program} {pl : bz} {ds : Bk}
theorem eP.drop {cs:CS} {env:Env} {X:XS} {w0 w:World} {a:Act} (h:eP pl ds cs env X w0 a w):eP pl ds .start env X w0 a w:=
 { h with sig:=fun _ hp=>(by cases hp),live:=fun _ hp=>(by cases hp),ptr:=fun _ hp=>(by cases hp) }
theorem Mi: ∀(l acc:List Nat) (s:Nat),(s∈l∨s∈acc)→s∈py l acc
 |[],acc,s,h=>h.elim (fun h=>by cases h) id
 |x::r,acc,s,h=>by
  simp only [py];refine Mi r _ s ?_;rcases h with h|h
  ·rcases List.mem_cons.1 h with rfl|h
   ·right;split
    ·rename_i hc;simpa using hc
    ·exact di ..
   ·exact .inl h
  ·right;split
   ·exact h
   ·exact bG _ h
theorem QP.mono {K K':na} (h: ∀ex e w X,K ex e w X→K' ex e w X) (ex:Exit) (a:Act) (w:World) (hq:QP pl ds K ex a w):QP pl ds K' ex a w:=by
 cases ex<;>simp only [QP] at hq⊢
 case panic ch=>obtain⟨h1,env,X,w0,h2,h3,h4⟩:=hq;exact⟨h1,env,X,w0,h2,h _ _ _ _ h3,h4⟩
 all_goals (obtain⟨env,X,w0,h2,h3⟩:=hq;exact⟨env,X,w0,h2,h _ _ _ _ h3⟩)
theorem adl: ∀(c:Code) (t:T) (K:na) (env:Env) (X:XS) (w0:World) (a:Act) (w:World),
  lj P pl c=some t→(∀b,b∈t.mk→ ∀p,p∈ds.pins→p.1≠b)→eP pl ds .start env X w0 a w→den P t K env w0 X→c.wp P (QP pl ds K) a w:=by
 intro c
 induction c with
 |skip=>
  intro t K env X w0 a w hc hm h hd;simp only [lj,ax] at hc;subst hc;exact wp_skip ⟨env,X,w0,h,hd⟩
 |region id ops draw=>
  intro t K env X w0 a w hc hm h hd;have hN: ∀rn a' w' dx X' eK,eP pl ds rn dx X' eK a' w'→(fun e w X=>K .normal e w X) dx eK X'→QP pl ds K .normal a' w':=
   fun rn a' w' dx X' eK h1 h2=>⟨dx,X',eK,h1.drop,h2⟩
  have hQ: ∀ch a' w' dx X' eK,a'.defers=ds.ds→Kp X' eK w'→ug pl ds dx X' a' w'→(fun ch=>K (.panic ch)) ch dx eK X'→QP pl ds K (.panic ch) a' w':=
   fun ch a' w' dx X' eK h0 h1 Ea h2=>⟨h0,dx,X',eK,h1,h2,Ea⟩
  simp only [lj] at hc;split at hc
  ·rename_i ko;subst ko;split at hc
   ·rename_i AM;simp only [aV] at AM;refine wp_region_any AM.1 (Lt (pl:=pl) _ _ _ _ ?_);have Fc: ∀c a (d:Option Nat) v w,(∀x,d=some x→ ∀p,p∈ds.pins→p.1≠x)→QP pl ds K (.panic c) (a.put d v) w→QP pl ds K (.panic c) a w:=fun c a d v w hd hq=>by
     obtain⟨h1,e,X',eK,h2,h3,h4⟩:=hq;exact⟨by cases d<;>exact h1,e,X',eK,h2,h3,h4.put hd⟩
    split at hc
    ·rename_i tl hl;simp only [ax] at hc;subst hc;exact Db hN hQ Fc AM.2 _ _ _ tl env X w0 _ _ hl hm (h.nV (Ext.drew w)) hd
    ·exact KA hN hQ Fc AM.2 _ _ _ t env X w0 _ _ hc hm (h.nV (Ext.drew w)) hd
   ·cases hc
  ·rename_i ko;simp only [Bool.not_eq_true] at ko;subst ko;cases hl:Kz P pl ops ops.toList .start with
   |none=>simp [hl] at hc
   |some tl=>
    simp only [hl,bH,ax] at hc;subst hc;exact wp_region_list (YB hN hQ ops.toList .start tl env X w0 a w hl hm h hd)
 |seq x y ihx ihy=>
  intro t K env X w0 a w hc hm h hd;simp only [lj] at hc;cases hx:lj P pl x with
  |none=>simp [hx] at hc
  |some tx=>
   cases hy:lj P pl y with
   |none=>simp [hx,hy] at hc
   |some ty=>
    simp only [hx,hy,ax] at hc;have hd':den P (.seq tx ty) K env w0 X:=by
     subst hc;split at hd
     ·exact hd
     ·show den P tx (na.U7 (fun e w X=>den P .skip K e w X) K) env w0 X
      refine mT tx hd fun ex e w' X' _ _ hq=>?_;cases ex<;>exact hq
     ·exact hd
    have hmm: ∀b,b∈tx.mk∨b∈ty.mk→ ∀p,p∈ds.pins→p.1≠b:=fun b hb=>hm b (by
     rw [←hc];split
     ·exact hb.resolve_left (fun h=>by cases h)
     ·exact hb.resolve_right (fun h=>by cases h)
     ·exact List.mem_append.2 hb)
    refine wp_seq (wp_mono (ihx tx _ env X w0 a w hx (fun b hb=>hmm b (.inl hb)) h hd') fun ex a' w' hq=>?_);cases ex with
    |normal=>
     obtain⟨e,X',eK,h1,h2⟩:=hq;exact ihy ty K e X' eK a' w' hy (fun b hb=>hmm b (.inr hb)) h1 h2
    |exit i=>exact hq
    |goto i=>exact hq
    |ret=>exact hq
    |panic c=>exact hq
    |outgrown=>exact hq
 |cond c x y ihx ihy=>
  intro t K env X w0 a w hc hm h hd;simp only [lj] at hc;cases hv:valOf pl .start c with
  |none=>simp [hv] at hc
  |some e=>
   cases hx:lj P pl x with
   |none=>simp [hv,hx] at hc
   |some tx=>
    cases hy:lj P pl y with
    |none=>simp [hv,hx,hy] at hc
    |some ty=>
     simp only [hv,hx,hy,ax] at hc;subst hc;have he:=h.eval hv;simp only [den,au] at hd;split at hd
     ·rename_i b hb;rw [hb] at he;exact wp_cond_split he (fun ht=>ihx tx K env X w0 a w hx (fun b hb=>hm b (bX _ hb)) h (hd.1 ht)) (fun ht=>ihy ty K env X w0 a w hy (fun b hb=>hm b (dw _ hb)) h (hd.2 ht))
     ·exact hd.elim
 |block id x ih=>
  intro t K env X w0 a w hc hm h hd;simp only [lj] at hc;cases hx:lj P pl x with
  |none=>simp [hx] at hc
  |some tx=>
   simp only [hx,bH,ax] at hc;subst hc;refine wp_block (wp_mono (ih tx _ env X w0 a w hx hm h hd) fun ex a' w' hq=>?_);cases ex with
   |exit i=>
    obtain⟨e,X',eK,h1,h2⟩:=hq;simp only [Exit.inBlock,na.dK] at h2⊢;split
    ·rename_i hi;rw [if_pos hi] at h2;exact⟨e,X',eK,h1,h2⟩
    ·rename_i hi;rw [if_neg hi] at h2;exact⟨e,X',eK,h1,h2⟩
   |normal=>exact hq
   |goto i=>exact hq
   |ret=>exact hq
   |panic c=>exact hq
   |outgrown=>exact hq
 |loop x ih=>
  intro t K env X w0 a w hc hm h hd;simp only [lj] at hc;cases hx:lj P pl x with
  |none=>simp [hx] at hc
  |some tx=>
   simp only [hx,bH,ax] at hc;subst hc;obtain⟨J,⟨n0,h0⟩,hJ⟩:=hd;refine abk (fun n a w=> ∃e X' eK,eP pl ds .start (merge (py tx.wr []) e env) X' eK a w∧(∀k,X k→X' k)∧J n (((py tx.wr []).filter (Jx pl.car)).map e) eK X') ⟨n0,env,X,w0,?_,fun _ h=>h,h0⟩ ?_
   ·have:merge (py tx.wr []) env env=env:=by
     funext s
     by_cases hs:s∈py tx.wr []
     ·exact Sv hs
     ·exact B1 hs
    rw [this];exact h
   ·rintro n a w ⟨e,X',eK,h1,h2,h3⟩;have R5:=hJ n e eK X' h2 h3;have qw:=mT tx (K':=fun ex e' mN rl=>na.U7 (fun e' mN rl=> ∃m,m<n∧J m (((py tx.wr []).filter (Jx pl.car)).map e') mN rl) K ex e' mN rl∧(∀k,X' k→rl k)∧ ∀s,¬s∈tx.wr→e' s=merge (py tx.wr []) e env s) R5
     fun ex e' w' rl hX he hq=>⟨hq,hX,he⟩
    refine wp_mono (ih tx _ _ X' eK a w hx hm h1 qw) fun ex a' w' hq=>?_;cases ex with
    |normal=>
     obtain⟨e',rl,AG,g1,⟨m,hm,g2⟩,g3,g4⟩:=hq;refine⟨m,hm,e',rl,AG,?_,fun k hk=>g3 k (h2 k hk),g2⟩;have:merge (py tx.wr []) e' env=e':=by
      funext s
      by_cases hs:s∈py tx.wr []
      ·exact Sv hs
      ·rw [B1 hs,g4 s fun hc=>hs (Mi _ _ _ (.inl hc)),B1 hs]
     rw [this];exact g1
    |exit i=>obtain⟨e',rl,AG,g1,g2,_⟩:=hq;exact⟨e',rl,AG,g1,g2⟩
    |goto i=>obtain⟨e',rl,AG,g1,g2,_⟩:=hq;exact⟨e',rl,AG,g1,g2⟩
    |ret=>obtain⟨e',rl,AG,g1,g2,_⟩:=hq;exact⟨e',rl,AG,g1,g2⟩
    |panic c=>obtain⟨g0,e',rl,AG,g1,⟨g2,_⟩,g3⟩:=hq;exact⟨g0,e',rl,AG,g1,g2,g3⟩
    |outgrown=>exact hq
 |exit id=>
  intro t K env X w0 a w hc hm h hd;simp only [lj,ax] at hc;subst hc;exact wp_exit ⟨env,X,w0,h,hd⟩
 |ret=>
  intro t K env X w0 a w hc hm h hd;simp only [lj,ax] at hc;subst hc;exact wp_ret ⟨env,X,w0,h,hd⟩
 |rangeFunc=>intro t K env X w0 a w hc;cases hc
 |scope=>intro t K env X w0 a w hc;cases hc
 |label=>intro t K env X w0 a w hc;cases hc
 |goto=>intro t K env X w0 a w hc;cases hc
 |refuse=>intro t K env X w0 a w hc;cases hc
def W7 (tmps:Array Value):ResultVar→Sem Value
 | .tmp t=>pure (tmps.getD t undef)
 | .cell c t=>do loadVar t (←asAddr (tmps.getD c undef))
theorem Sw {env:Env} {X:XS} {w0 w:World} {a:Act} {cs:CS} (h:eP pl ds cs env X w0 a w): ∀(l:List ResultVar) (es:List Ex) (nd:List Nat),
  Cu P pl l=some (es,nd)→(∀b,b∈nd→cd (env b)=true)→
  (l.mapM (W7 a.tmps)).run P w=Result.ok (es.map (·.ev env)) w
 |[],es,nd,hc,_=>by
  simp only [Cu,ax,dr] at hc;rw [←hc.1];rfl
 | .tmp t::r,es,nd,hc,hl=>by
  simp only [Cu] at hc;split at hc
  ·rename_i hg;cases hr:Cu P pl r with
   |none=>simp [hr] at hc
   |some x=>
    obtain⟨VT,nd'⟩:=x;simp only [hr,bH,ax,dr] at hc;obtain⟨rfl,rfl⟩:=hc;have ih:=Sw h r VT nd' hr hl;simp [List.mapM_cons,W7,ih,h.rY t hg,Ex.ev]
  ·cases hc
 | .cell c t::r,es,nd,hc,hl=>by
  simp only [Cu] at hc;split at hc
  ·rename_i bs ag sz hb ht;split at hc
   ·rename_i vE;simp only [aV,decide_eq_true_eq] at vE;cases hr:Cu P pl r with
    |none=>simp [hr] at hc
    |some x=>
     obtain⟨VT,nd'⟩:=x;simp only [hr,bH,ax,dr] at hc;obtain⟨rfl,rfl⟩:=hc;have ih:=Sw h r VT nd' hr fun b hb=>hl b (bG _ hb);obtain⟨cells,oz⟩:=sD.1 (hl c (di ..));obtain⟨k,ty,e1,e2,e3,_⟩:=h.box c bs hb cells oz;have hld:=Lw ht vE.2 e2 0 zQ;have ahK:(loadVar t ⟨k,0,none⟩).run P w= .ok (if ag then b7 (.agg cells) 0 sz else cellOf (.agg cells) 0) w:=by
      simpa [gP,iY,gi] using hld
     have Yy:(if ag then Ex.s c 0 sz else Ex.k c 0).ev env=if ag then b7 (.agg cells) 0 sz else cellOf (.agg cells) 0:=by
      cases ag<;>simp [Ex.ev,oz]
     simp [List.mapM_cons,W7,ih,e1,gi,asAddr,ahK,Yy]
   ·cases hc
  ·cases hc
theorem VU {env:Env} {X:XS} {w0 w:World} {a:Act} {cs:CS} (h:eP pl ds cs env X w0 a w) {fn:Func} {es:List Ex} {nd:List Nat}
  (hc:Cu P pl fn.results.toList=some (es,nd)) (hl: ∀b,b∈nd→cd (env b)=true):(results fn a.tmps).run P w= .ok (aan es env) w:=by
 have hr:=Sw h _ _ _ hc hl;have hf:results fn a.tmps=(do let vs←fn.results.mapM (W7 a.tmps);pure (if h:vs.size=1 then vs[0] else .tuple vs)):=by
  unfold results
  congr 2
 rw [hf,Array.mapM_eq_mapM_toList];simp only [bL,Sem.run_map,hr,bk,cH]
 congr 1
 match es with
 |[]=>rfl
 |[e]=>rfl
 |e::e'::r=>simp [aan]
def abl (P:Program) (o:Option FT) (R:Ending→World→Prop) (args:Array Value) (w:World):Prop:=match o with
 |some ft=>den P ft.code (aao ft R) (BQ args) w (aS w)
 |none=>False
theorem Sx {f:FuncId} {fn:Func} {pl:bz} {ft:FT} {args:Array Value} {w:World} {R:Ending→World→Prop} (hf:P.funcs[f]? =some fn)
  (hc:cF P pl fn=some ft) (af5:args.size≤pl.n) (kJ:(pl.boxes.all fun p=>decide (args.size≤p.1))=true)
  (h:den P ft.code (aao ft R) (BQ args) w (aS w)):Calls P f args w R:=by
 unfold cF at hc;split at hc
 ·rename_i hn;have j3:fn.ntmps=pl.n:=by simpa using hn
  split at hc
  ·rename_i c hb;split at hc
   ·rename_i t r nd af9 aeS;injection hc with hc
    subst hc;refine calls_of_wp hf hb (wp_mono (adl (pl:=pl) (ds:=⟨[],[]⟩) c t (aao ⟨t,r,nd⟩ R) (BQ args) (aS w) w _ w af9 (fun _ _ _ hp=>by cases hp) ?_ h) fun ex a' w' hq=>?_)
    ·have aga:(args++jG (fn.ntmps-args.size) undef).size=pl.n:=by simp;omega
     have W8: ∀s,s<pl.n→(args++jG (fn.ntmps-args.size) undef)[s]? =some (BQ args s):=by
      intro s hs;rw [rL];split
      ·rename_i h1;simp [BQ,ui,h1]
      ·rename_i h1;rw [pJ,if_pos zQ];simp only [BQ,ui];rw [iU (by simpa using h1)];rfl
     have ZI: ∀b n,look pl.boxes b=some n→BQ args b=undef:=by
      intro b n hb;have h1:=List.all_eq_true.1 kJ _ (D7 hb);simp only [decide_eq_true_eq] at h1;simp only [BQ,ui];rw [iU (by simpa using h1)];rfl
     exact {
      size:=aga
      defers:=rfl
      zr:=fun _ hp=>(by cases hp)
      ext:=Kp.refl _ _
      xp:=fun _ hk=>hk
      rY:=fun s hs=>W8 s (tD hs).1
      sig:=fun _ hp=>(by cases hp)
      box:=fun b n hb cells hc=>by rw [ZI b n hb] at hc;cases hc
      inj:=fun b b' n n' hb fF h1=>by rw [ZI b n hb] at h1;cases h1
      conv:=fun b n hb k hk=>by
       have h1:=List.all_eq_true.1 kJ _ (D7 hb);simp only [decide_eq_true_eq] at h1;rw [rL,if_neg zQ,pJ] at hk;split at hk
       ·cases hk
       ·cases hk
      live:=fun _ hp=>(by cases hp)
      ptr:=fun _ hp=>(by cases hp) }
    ·cases ex with
     |normal=>
      obtain⟨e,X',eK,h1,hq⟩:=hq;obtain⟨h2,h3⟩:=eQ.1 hq;exact⟨h1.defers,_,VU h1 aeS (List.all_eq_true.1 h2),h3 w' h1.ext⟩
     |ret=>
      obtain⟨e,X',eK,h1,hq⟩:=hq;obtain⟨h2,h3⟩:=eQ.1 hq;exact⟨h1.defers,_,VU h1 aeS (List.all_eq_true.1 h2),h3 w' h1.ext⟩
     |panic ch=>
      obtain⟨h0,e,X',eK,h1,h2,_⟩:=hq;exact⟨h0,h2 w' h1⟩
     |exit i=>obtain⟨e,X',eK,h1,h2⟩:=hq;exact h2
     |goto i=>obtain⟨e,X',eK,h1,h2⟩:=hq;exact h2
     |outgrown=>exact hq.elim
   ·cases hc
  ·cases hc
 ·cases hc
theorem aL {f:FuncId} {fn:Func} {pl:bz} {args:Array Value} {w:World} {R:Ending→World→Prop} {V:Prop} (hf:P.funcs[f]? =some fn)
  (hs:(decide (args.size≤pl.n)&&pl.boxes.all fun p=>decide (args.size≤p.1))=true) (hv:V=abl P (cF P pl fn) R args w) (h:V):Calls P f args w R:=by
 subst hv;unfold abl at h;simp only [aV,decide_eq_true_eq] at hs;split at h
 ·rename_i ft hc;exact Sx hf hc hs.1 hs.2 h
 ·exact h.elim
end
def az (P:Program) (X:XS) (w:World) (s:Sem Next) (N:Value→Prop):Prop:= ∃v,Rd P X w s v∧N v
def ad (P:Program) (X:XS) (w:World) (s:Sem Value) (N:Value→Prop):Prop:=az P X w (vS s) N
def aJ (P:Program) (X:XS) (w:World) (g:Value) (want:Bool) (s:Sem Next) (N:Value→Prop):Prop:=
 ∃v,(ky g want=true→Rd P X w s v)∧(ky g want=false→v=undef)∧N v
def aP (g:Value) (want:Bool) (v:Value):Value:=if ky g want then v else undef
def aQ (c a b:Value):Sem Next:=do pure (.value (if←asBool c then a else b))
def aM (x:Value):Sem Next:=execOp (fun _=>x) (MW (.nilCheck (.tmp 0)) 0)
def aH (op:BinOp) (t:TypeId) (xo yo:Operand) (x y:Value):Sem Value:=do eqGuard op t xo yo x y;binOp op t x y
def uS (s:Sem Unit):Sem Next:=do s;pure .skip
def pn (R:Ending→World→Prop):List PanicEntry→World→XS→Prop:=fun ch w X=> ∀wa,Kp X w wa→R (.panicked ch) wa
def eW (P:Program) (R:Ending→World→Prop) (X:XS) (w:World) (m:Bool) (s:Sem Next) (N:Value→World→XS→Prop):Prop:=
 ∀wa,Kp X w wa→jt P m X wa N (pn R) (s.run P wa)
def eV (P:Program) (R:Ending→World→Prop) (X:XS) (w:World) (m:Bool) (s:Sem Value) (N:Value→World→XS→Prop):Prop:=eW P R X w m (vS s) N
def eU (P:Program) (R:Ending→World→Prop) (X:XS) (w:World) (m:Bool) (s:Sem Unit) (N:Value→World→XS→Prop):Prop:=eW P R X w m (uS s) N
def eC (P:Program) (R:Ending→World→Prop) (X:XS) (w:World) (m:Bool) (f:FuncId) (args:Array Value) (N:Value→World→XS→Prop):Prop:=eW P R X w m (callFunc f args) N
def eF (P:Program) (R:Ending→World→Prop) (X:XS) (w:World) (m:Bool) (f:Value) (args:Array Value) (N:Value→World→XS→Prop):Prop:=eW P R X w m (D4 f args) N
def gE (g:Value) (want:Bool) (A B:Prop):Prop:=(ky g want=true→A)∧(ky g want=false→B)
def fin (R:Ending→World→Prop) (X:XS) (w:World) (v:Value):Prop:= ∀wa,Kp X w wa→R (.returned v) wa
abbrev JT:=Nat→List Value→World→XS→Prop
def Pq (J:JT) (n:Nat) (vs:List Value) (w:World) (X:XS):Prop:= ∃m,m<n∧J m vs w X
def Pr (X:XS) (w:World) (vs:List Value) (C:List Nat) (B:JT→Nat→Env→World→XS→Prop):Prop:=
 ∃J:JT,(∃n,J n vs w X)∧ ∀n (e:Env) w' X',(∀k,X k→X' k)→J n (C.map e) w' X'→B J n e w' X'
variable {P : Program} {R : Ending → World → Prop} {X : XS} {w : World} {m : Bool}
theorem AT {s:Sem Value} {N:Value→Prop} (v:Value) (h: ∀wa,Kp X w wa→s.run P wa= .ok v wa) (k:N v):ad P X w s N:=
 ⟨v,fun wa hk=>by simp [vS,h wa hk],k⟩
theorem cx {s:Sem Value} {N:Value→Prop} {v:Value} (h: ∀wa,s.run P wa= .ok v wa) (k:N v):ad P X w s N:=
 AT v (fun wa _=>h wa) k
theorem Sy {s:Sem Next} {N:Value→Prop} {v:Value} (h: ∀wa,s.run P wa= .ok (.value v) wa) (k:N v):az P X w s N:=
 ⟨v,fun wa _=>h wa,k⟩
theorem Au {α:Type} [BEq α] [LawfulBEq α] [DecidableEq α] (a b:α):(a==b)=decide (a=b):=by
 by_cases h:a=b<;>simp [h]
section
variable {N : Value → Prop} {t : TypeId} {k : IntKind} {a b : Int} {xo yo : Operand}
theorem adm (h:N (.bool (decide (a<b)))):ad P X w (binOp .lss t (.int k a) (.int k b)) N:=cx (fun wa=>by simp [binOp,oa]) h
theorem adn (h:N (.bool (decide (a≤b)))):ad P X w (binOp .leq t (.int k a) (.int k b)) N:=cx (fun wa=>by simp [binOp,oa]) h
theorem ado (h:N (.bool (decide (a>b)))):ad P X w (binOp .gtr t (.int k a) (.int k b)) N:=cx (fun wa=>by simp [binOp,oa]) h
theorem adp (h:N (.bool (decide (a≥b)))):ad P X w (binOp .geq t (.int k a) (.int k b)) N:=cx (fun wa=>by simp [binOp,oa]) h
theorem mn (h:N (.int k (k.wrap (a+b)))):ad P X w (binOp .add t (.int k a) (.int k b)) N:=cx (fun wa=>by simp [binOp,wJ]) h
theorem adq (h:N (.int k (k.wrap (a-b)))):ad P X w (binOp .sub t (.int k a) (.int k b)) N:=cx (fun wa=>by simp [binOp,wJ]) h
theorem adr (h:N (.int k (k.wrap (a*b)))):ad P X w (binOp .mul t (.int k a) (.int k b)) N:=cx (fun wa=>by simp [binOp,wJ]) h
theorem ads (h:N (.bool (decide (a=b)))):ad P X w (aH .eql t xo yo (.int k a) (.int k b)) N:=
 cx (fun wa=>by simp [aH,eqGuard,binOp,oa,Au]) h
theorem adt (h:N (.bool (decide (a≠b)))):ad P X w (aH .neq t xo yo (.int k a) (.int k b)) N:=
 cx (fun wa=>by simp [aH,eqGuard,binOp,oa,bne,Au]) h
end
section
variable {N : Value → Prop} {t : TypeId} {a b : ByteArray} {xo yo : Operand}
theorem abm (h:N (.bool (decide (a.toList=b.toList)))):ad P X w (aH .eql t xo yo (.string a) (.string b)) N:=
 cx (fun wa=>by simp [aH,eqGuard,binOp,rJ,Au]) h
theorem abn (h:N (.bool (decide (a.toList≠b.toList)))):ad P X w (aH .neq t xo yo (.string a) (.string b)) N:=
 cx (fun wa=>by simp [aH,eqGuard,binOp,rJ,Au]) h
theorem abo (h:N (.bool (!cG a.toList b.toList))):ad P X w (binOp .geq t (.string a) (.string b)) N:=
 cx (fun wa=>by simp [binOp,rJ]) h
theorem abp (h:N (.bool (cG a.toList b.toList||decide (a.toList=b.toList)))):ad P X w (binOp .leq t (.string a) (.string b)) N:=
 cx (fun wa=>by simp [binOp,rJ,Au]) h
end
section
variable {N : Value → Prop} {t : TypeId} {k : FloatKind} {a b : Nat} {xo yo : Operand}
theorem abq (h:N (.bool (k.format.order a b==some .lt))):ad P X w (binOp .lss t (.float k a) (.float k b)) N:=cx (fun wa=>by simp [binOp,oF]) h
theorem abr (h:N (.bool (k.format.order a b==some .lt||k.format.order a b==some .eq))):ad P X w (binOp .leq t (.float k a) (.float k b)) N:=
 cx (fun wa=>by simp [binOp,oF]) h
theorem abt (h:N (.bool (k.format.order a b==some .gt))):ad P X w (binOp .gtr t (.float k a) (.float k b)) N:=cx (fun wa=>by simp [binOp,oF]) h
theorem abu (h:N (.bool (k.format.order a b==some .gt||k.format.order a b==some .eq))):ad P X w (binOp .geq t (.float k a) (.float k b)) N:=
 cx (fun wa=>by simp [binOp,oF]) h
theorem abv (h:N (.bool (k.format.order a b !=some .eq))):ad P X w (aH .neq t xo yo (.float k a) (.float k b)) N:=
 cx (fun wa=>by simp [aH,eqGuard,binOp,oF]) h
end
section
variable {N : Value → Prop} {t : TypeId} {k k2 : IntKind} {a b : Int}
theorem Az (hb: ¬b<0) (h:N (.int k (a.fdiv (2^min b.toNat k.bits)))):ad P X w (binOp .shr t (.int k a) (.int k2 b)) N:=
 cx (fun wa=>by simp [binOp,Op.shift,hb]) h
theorem adu (hb: ¬b<0) (h:N (.int k (k.wrap (a*2^min b.toNat k.bits)))):ad P X w (binOp .shl t (.int k a) (.int k2 b)) N:=
 cx (fun wa=>by simp [binOp,Op.shift,hb]) h
theorem Nn (h:N (.int k (k.wrap (bY k.bits a^^^bY k.bits b).toNat))):ad P X w (binOp .xor t (.int k a) (.int k b)) N:=
 cx (fun wa=>by simp [binOp,Op.intBits]) h
theorem VV (h:N (.int k (k.wrap (bY k.bits a&&& bY k.bits b).toNat))):ad P X w (binOp .and t (.int k a) (.int k b)) N:=
 cx (fun wa=>by simp [binOp,Op.intBits]) h
end
section
variable {N : Value → Prop} {b c : Bool} {g : Value}
theorem VW (h:N (.bool (!b))):ad P X w (aX .not (.bool b)) N:=cx (fun wa=>by simp [aX]) h
theorem Sz {x y:Value} (h:N (if b then x else y)):az P X w (aQ (.bool b) x y) N:=Sy (fun wa=>by simp [aQ,asBool]) h
theorem ZJ {x y:Value} (h:N x):az P X w (aQ (.bool true) x y) N:=Sz h
theorem ZK {x y:Value} (h:N y):az P X w (aQ (.bool false) x y) N:=Sz h
theorem Iv {s:Sem Next} {want:Bool} (h:az P X w s N):aJ P X w (.bool want) want s N:=by
 obtain⟨v,hv,hn⟩:=h;exact⟨v,fun _=>hv,fun hf=>absurd hf (by simp [ky]),hn⟩
theorem SA {s:Sem Next} {want:Bool} (h:N undef):aJ P X w (.bool (!want)) want s N:=
 ⟨undef,fun hf=>absurd hf (by cases want<;>simp [ky]),fun _=>rfl,h⟩
theorem abw {s:Sem Next} (h:az P X w s N):aJ P X w (.bool true) true s N:=Iv h
theorem abx {s:Sem Next} (h:az P X w s N):aJ P X w (.bool false) false s N:=Iv h
theorem ZL {s:Sem Next} (h:N undef):aJ P X w (.bool false) true s N:=SA (want:=true) h
theorem ZM {s:Sem Next} (h:N undef):aJ P X w (.bool true) false s N:=SA (want:=false) h
theorem adw {A B:Prop} (h:b=true→A) (k:b=false→B):au (.bool b) A B:=⟨h,k⟩
theorem W9 {want:Bool} {A B:Prop} (h:b=want→A) (k:b=!want→B):gE (.bool b) want A B:=
 ⟨fun e=>h (by simpa [ky] using e),fun e=>k (by revert e;cases b<;>cases want<;>simp [ky])⟩
theorem ahL {A B:Prop} (h:A):gE (.bool true) true A B:=W9 (fun _=>h) (by simp)
theorem ahM {A B:Prop} (h:A):gE (.bool false) false A B:=W9 (fun _=>h) (by simp)
theorem agb {A B:Prop} (h:B):gE (.bool true) false A B:=W9 (by simp) (fun _=>h)
theorem agc {A B:Prop} (h:B):gE (.bool false) true A B:=W9 (by simp) (fun _=>h)
theorem Uu {vs:Array Value} {i:Nat} {v:Value} (hi:vs[i]? =some v) (h:N v):ad P X w (aC (.tuple vs) i) N:=
 cx (fun wa=>by simp [aC,hi]) h
theorem adx {a:Addr} (h:N (.pointer (some a))):az P X w (aM (.pointer (some a))) N:=
 Sy (fun _=>rfl) h
theorem SB {t e:TypeId} {xo yo:Operand} {p:Option Addr} (ht:P.underlying t=some (.pointer e)) (h:N (.bool p.isNone)):
  ad P X w (aH .eql t xo yo (.pointer p) (.pointer none)) N:=by
 refine cx (fun wa=>?_) h;have hp:P.pointee t=e:=by simp [Program.pointee,ht]
 have:=run_equal_pointer_nil (P:=P) (w:=wa) t p (by rw [hp];exact ht);simp [aH,eqGuard,binOp,this]
end
theorem aeT {f:FuncId} {args:Array Value} {N:Value→World→XS→Prop} (Q:Value→World→World→Prop)
  (hf: ∀wa,(callFunc f args).run P wa= .ok (.enter f args) wa)
  (h: ∀wa,Kp X w wa→Calls P f args wa fun e w'=> ∃v,e= .returned v∧Ext wa w'∧Q v wa w')
  (k: ∀v wa w',Kp X w wa→Ext wa w'→Q v wa w'→N v w' (grow X wa w')):eC P R X w m f args N:=by
 intro wa hk;unfold jt;rw [hf wa];refine⟨rfl,(h wa hk).mono ?_⟩;rintro e w' ⟨v,rfl,hx,hq⟩;exact⟨Step.fk hx,k v wa w' hk hx hq⟩
structure ak (X:XS) (w:World) (X':XS) (w':World):Prop where
 kp:Kp X w w'
 sub: ∀k,X k→X' k
 has: ∀k,X' k→k<w'.heap.size
theorem ak.init (w:World):ak (aS w) w (aS w) w:=⟨Kp.refl _ _,fun _ h=>h,fun _ h=>h⟩
theorem ak.trans {X Y Z:XS} {a b c:World} (h:ak X a Y b) (k:ak Y b Z c):ak X a Z c:=
 ⟨h.kp.trans (k.kp.less h.sub),fun i hi=>k.sub i (h.sub i hi),k.has⟩
theorem ak.fk {X:XS} {w wa w':World} (hX: ∀k,X k→k<w.heap.size) (hk:Kp X w wa) (hx:Ext wa w'):ak X w (grow X wa w') w':=
 ⟨hk.trans (hx.kp fun k h=>aI (hX k h) hk.size),fun _ h=>.inl h,
  fun k h=>h.elim (fun h=>aI (hX k h) (af hk.size hx.size)) (fun h=>h.2)⟩
theorem ak.ext {w w':World} {X:XS} (h:ak (aS w) w X w') {wa:World} (hk:Kp X w' wa):Ext w wa:=(h.kp.trans (hk.less h.sub)).ext
variable {P : Program} {R : Ending → World → Prop} {X : XS} {w : World} {m : Bool}
def Pure (P:Program) (f:FuncId) (args:Array Value) (v:Value):Prop:=
 ∀w,Calls P f args w fun e w'=>e= .returned v∧Ext w w'
def agd (P:Program) (f:FuncId) (args:Array Value) (w:World) (Q:Value→World→Prop):Prop:=
 Calls P f args w fun e w'=> ∃v,e= .returned v∧Ext w w'∧Q v w'
def enters (P:Program) (f:FuncId):Bool:=match P.funcs[f]? with
 |some fn=>!(fn.name== "runtime.NumGoroutine")&&fn.body.isSome
 |none=>false
theorem sF {f:FuncId} (h:enters P f=true) (args:Array Value) (w:World):(callFunc f args).run P w= .ok (.enter f args) w:=by
 unfold enters at h;split at h
 ·rename_i fn hf;simp only [aV,dH] at h;obtain⟨c,hb⟩:=Option.isSome_iff_exists.1 h.2;have hn: ¬fn.name= "runtime.NumGoroutine" :=by simpa using h.1
  simp [callFunc,hf,hn,hb]
 ·cases h
theorem SC {f:FuncId} {args:Array Value} {N:Value→World→XS→Prop} {Q:Value→World→World→Prop}
  (hf:enters P f=true) (hX: ∀k,X k→k<w.heap.size)
  (h: ∀wa,Kp X w wa→agd P f args wa (Q · wa))
  (k: ∀v wa w' X',Kp X w wa→Ext wa w'→(∀k,wa.heap.size≤k→k<w'.heap.size→X' k)→Q v wa w'→ak X w X' w'→N v w' X'):
  eC P R X w m f args N:=by
 refine aeT Q (sF hf args) (fun wa hk=>?_) fun v wa w' hk hx hq=>k v wa w' _ hk hx (fun k h1 h2=>.inr ⟨h1,h2⟩) hq (ak.fk hX hk hx);refine(h wa hk).mono ?_;rintro e w' ⟨v,he,hx,hq⟩;exact⟨v,he,hx,hq⟩
theorem VX {f:FuncId} {args:Array Value} {v:Value} {N:Value→World→XS→Prop}
  (hf:enters P f=true) (hX: ∀k,X k→k<w.heap.size) (h:Pure P f args v)
  (k: ∀w' X',ak X w X' w'→N v w' X'):eC P R X w m f args N:=by
 refine SC (Q:=fun u _ _=>u=v) hf hX (fun wa _=>(h wa).mono ?_) fun u wa w' X' _ _ _ hq hs=>hq▸k w' X' hs;rintro e w' ⟨he,hx⟩;exact⟨v,he,hx,rfl⟩
theorem Bl {f:FuncId} {args:Array Value} {v:Value} {N:Value→World→XS→Prop} (hf: ∀wa,(callFunc f args).run P wa= .ok (.value v) wa)
  (hX: ∀k,X k→k<w.heap.size) (k: ∀w' X',ak X w X' w'→N v w' X'):eC P R X w m f args N:=by
 intro wa hk;unfold jt;rw [hf wa];exact⟨Step.fk (Ext.refl _),k _ _ (ak.fk hX hk (Ext.refl _))⟩
theorem fA {w0:World} {u v:Value} (hs:ak (aS w0) w0 X w) (h:u=v):fin (fun e w'=>e= .returned v∧Ext w0 w') X w u:=
 fun _ hk=>⟨by rw [h],hs.ext hk⟩
variable {P : Program} {R : Ending → World → Prop} {X : XS} {w : World} {m : Bool} {N : Value → Prop}
abbrev ptr (b o:Nat):Value:=.pointer (some ⟨b,o,none⟩)
def Cells (w:World) (X:XS) (b o:Nat) (l:List Value):Prop:=
 X b∧ ∃cs t fr,w.heap[b]? =some (.cells cs t fr)∧ ∀j v,l[j]? =some v→cs[o+j]? =some v
theorem Cells.kp {b o:Nat} {l:List Value} (h:Cells w X b o l) {w':World} (hk:Kp X w w'):Cells w' X b o l:=by
 obtain⟨hx,cs,t,fr,hb,hc⟩:=h;exact⟨hx,cs,t,fr,by rw [hk.block b hx];exact hb,hc⟩
theorem Cells.mono {b o:Nat} {l:List Value} {Y:XS} (h:Cells w X b o l) (hs: ∀k,X k→Y k):Cells w Y b o l:=⟨hs _ h.1,h.2⟩
theorem Cells.since {b o:Nat} {l:List Value} {Y:XS} {w':World} (h:Cells w X b o l) (hs:ak X w Y w'):Cells w' Y b o l:=(h.kp hs.kp).mono hs.sub
theorem Cells.range {b o:Nat} {l:List Value} (h:Cells w X b o l):w.rangeAt b o l:=by
 obtain⟨_,cs,t,fr,hb,hc⟩:=h;intro j v hj;rw [cell_of_row w b (o+j) cs t fr hb];exact hc j v hj
theorem Cells.lt {b o:Nat} {l:List Value} (h:Cells w X b o l):b<w.heap.size:=by
 obtain⟨_,cs,t,fr,hb,_⟩:=h;exact(Array.getElem?_eq_some_iff.1 hb).1
theorem Cells.part {b o:Nat} {l:List Value} (h:Cells w X b o l) (i n:Nat):Cells w X b (o+i) ((l.drop i).take n):=by
 obtain⟨hx,cs,t,fr,hb,hc⟩:=h;refine⟨hx,cs,t,fr,hb,fun j v hj=>?_⟩;rw [jN] at hj;split at hj
 ·rw [List.getElem?_drop] at hj;rw [Nat.add_assoc];exact hc _ v hj
 ·cases hj
theorem ZN {t:TypeId} {b o:Nat} {v:Value} {l:List Value} (h:Cells w X b o (v::l)) (hi:iZ P t=some (false,1)) (k:N v):
  ad P X w (gP t (ptr b o)) N:=by
 refine AT v (fun wa hk=>?_) k;have hc:wa.cell? ⟨b,o,none⟩=some v:=(h.kp hk).range 0 v rfl;unfold iZ at hi;split at hi
 ·rename_i d i hu AF;simp only [ax,dr] at hi;have x5:(isAgg t).run P wa= .ok false wa:=by
   cases d<;>simp_all [isAgg,run_underlying hu]
  simp [gP,iY,loadVar,x5,hc]
 ·cases hi
theorem ZO {t:TypeId} {b o n:Nat} {l:List Value} (h:Cells w X b o l) (hi:iZ P t=some (true,n)) (hn:l.length=n) (k:N (.agg l.toArray)):
  ad P X w (gP t (ptr b o)) N:=by
 refine AT _ (fun wa hk=>?_) k;unfold iZ at hi;split at hi
 ·rename_i d i hu AF;simp only [ax,dr] at hi;exact run_loadAt_mid wa b o t l d (h.kp hk).range hu (by cases d<;>simp_all) (by simp [AF,hi.2,hn])
 ·cases hi
theorem J9 {S f fo sz b o:Nat} (h:fieldInfo P S f=some (fo,sz)) (hz:sz≠0) (k:N (ptr b (o+fo))):ad P X w (Instr.fieldAt S (ptr b o) f) N:=
 cx (fun wa=>Jy h hz b o wa) k
theorem ZP {t:TypeId} {parts:Array (Nat×Value)} (cells:Array Value) (h:P.built t parts.toList=some cells) (k:N (.agg cells)):
  ad P X w (Instr.build t parts) N:=
 cx (fun wa=>run_build wa t parts cells h) k
theorem aby {t ty:TypeId} {s:ByteArray} (ht:P.underlying t=some .string) (k:N (.int .i64 s.size)):ad P X w (eT #[t] ty #[.string s]) N:=
 cx (fun wa=>by simp [eT,run_underlying ht,goInt]) k
def Sl (w:World) (X:XS) (k:Nat) (v:Value) (rows:List (List Value)):Prop:=
 (∀r∈rows,r.length=k)∧rows.length≤2^63-1∧
 ∃base cap,v= .slice base rows.length cap∧(rows≠[]→ ∃b o,base=some ⟨b,o,none⟩∧Cells w X b o rows.flatten)∧
  (base=none→cap=0)∧rows.length≤cap∧cap≤2^63-1
theorem Sl.mono {k:Nat} {v:Value} {rows:List (List Value)} {Y:XS} (h:Sl w X k v rows) (hs: ∀k,X k→Y k):Sl w Y k v rows:=by
 obtain⟨h1,h2,base,cap,hv,hc,hr⟩:=h;exact⟨h1,h2,base,cap,hv,fun bW=>let⟨b,o,hb,lR⟩:=hc bW;⟨b,o,hb,lR.mono hs⟩,hr⟩
theorem Sl.kp {k:Nat} {v:Value} {rows:List (List Value)} {w':World} (h:Sl w X k v rows) (hk:Kp X w w'):Sl w' X k v rows:=by
 obtain⟨h1,h2,base,cap,hv,hc,hr⟩:=h;exact⟨h1,h2,base,cap,hv,fun bW=>let⟨b,o,hb,lR⟩:=hc bW;⟨b,o,hb,lR.kp hk⟩,hr⟩
theorem Sl.since {k:Nat} {v:Value} {rows:List (List Value)} {Y:XS} {w':World} (h:Sl w X k v rows) (hs:ak X w Y w'):Sl w' Y k v rows:=
 (h.kp hs.kp).mono hs.sub
theorem Sl.aS {k:Nat} {v:Value} {rows:List (List Value)} (h:Sl w X k v rows):Sl w (aS w) k v rows:=by
 obtain⟨h1,h2,base,cap,hv,hc,hr⟩:=h;exact⟨h1,h2,base,cap,hv,fun bW=>let⟨b,o,hb,lR⟩:=hc bW;⟨b,o,hb,lR.lt,lR.2⟩,hr⟩
theorem Sl.nil (w:World) (X:XS) (k:Nat):Sl w X k (.slice none 0 0) []:=⟨by simp,by simp,none,0,rfl,by simp,by simp,by simp,by simp⟩
theorem Sl.one {k:Nat} {v:Value} {rows:List (List Value)} (h:Sl w X k v rows):one v=true:=by
 obtain⟨_,_,_,_,rfl,_⟩:=h;rfl
theorem Hg {k:Nat} : ∀{rows:List (List Value)},(∀r∈rows,r.length=k)→ ∀{i:Nat} {r:List Value},rows[i]? =some r→
  (rows.flatten.drop (i*k)).take k=r
 |[],_,i,r,h=>by simp at h
 |x::rest,hl,0,r,h=>by
  simp only [iz,ax] at h;subst h;have:=hl x (by simp);simp [this.symm]
 |x::rest,hl,i+1,r,h=>by
  have hx:=hl x (by simp);rw [dP,List.drop_append,hx,List.drop_eq_nil_of_le (by rw [hx];exact Nat.le_mul_of_pos_left k (Nat.succ_pos i))];have:(i+1)*k-k=i*k:=by rw [Nat.succ_mul];omega
  rw [this,fg];exact Hg (fun r hr=>hl r (by simp [hr])) (by simpa using h)
theorem ady {t ty:TypeId} {k:Nat} {v:Value} {rows:List (List Value)} (h:Sl w X k v rows) (ht:P.underlying t=some (.slice (P.elem t)))
  (n:N (.int .i64 rows.length)):ad P X w (eT #[t] ty #[v]) N:=by
 obtain⟨_,_,base,cap,rfl,_⟩:=h;exact cx (fun wa=>run_len_slice wa t ty base rows.length cap ht) n
theorem abz {α:Type} {enc:α→List Value} {t ty:TypeId} {k:Nat} {v:Value} {xs:List α} (h:Sl w X k v (xs.map enc))
  (ht:P.underlying t=some (.slice (P.elem t))) (n:N (.int .i64 xs.length)):ad P X w (eT #[t] ty #[v]) N:=
 ady h ht (by simpa using n)
theorem Rz {t:TypeId} {xs ys:Array Value} {xo yo:Operand} {b:Bool} (hm:P.eqGuardType P.depth t=false)
  (h: ∀wa,(ig 10000 t (.agg xs) (.agg ys)).run P wa= .ok b wa) (k:N (.bool b)):ad P X w (aH .eql t xo yo (.agg xs) (.agg ys)) N:=by
 refine cx (fun wa=>?_) k;simp [aH,run_eqGuard_agg wa .eql t xo yo xs ys hm,run_eql_struct,h]
theorem abA {t:TypeId} {xs ys:Array Value} {xo yo:Operand} {b:Bool} (hm:P.eqGuardType P.depth t=false)
  (h: ∀wa,(ig 10000 t (.agg xs) (.agg ys)).run P wa= .ok b wa) (k:N (.bool (!b))):ad P X w (aH .neq t xo yo (.agg xs) (.agg ys)) N:=by
 refine cx (fun wa=>?_) k;simp [aH,run_eqGuard_agg wa .neq t xo yo xs ys hm,binOp,Op.equal,Op.maxDepth,h]
theorem wrap_i64 {a:Int} (h1: -(2^63)≤a) (h2:a<2^63):IntKind.i64.wrap a=a:=by
 simp only [IntKind.wrap];first
  |omega
  |(simp [IntKind.bits,IntKind.signed];omega)
variable {P : Program} {R : Ending → World → Prop} {X : XS} {w : World} {m : Bool}
structure Grown (X:XS) (w:World) (X':XS) (w':World) (row:Option Nat):Prop where
 os:w'.os=w.os
 tape:w'.tape=w.tape
 output:w'.output=w.output
 size:w.heap.size≤w'.heap.size
 block: ∀k,X k→some k≠row→w'.heap[k]? =w.heap[k]?
 sub: ∀k,X k→X' k
 has: ∀k,X' k→k<w'.heap.size
theorem ak.grown {X0 Y:XS} {w0 w':World} {row:Option Nat} (h:ak X0 w0 X w) (g:Grown X w Y w' row) (hr: ∀k,X0 k→some k≠row):ak X0 w0 Y w':=
 ⟨⟨g.os.trans h.kp.os,g.tape.trans h.kp.tape,g.output.trans h.kp.output,af h.kp.size g.size,
  fun k hk=>(g.block k (h.sub k hk) (hr k hk)).trans (h.kp.block k hk)⟩,fun k hk=>g.sub k (h.sub k hk),g.has⟩
theorem Grown.since {Y:XS} {w':World} {row:Option Nat} {F:XS} (g:Grown X w Y w' row) (hf: ∀k,F k→X k) (hr: ∀k,F k→some k≠row):ak F w Y w':=
 ⟨⟨g.os,g.tape,g.output,g.size,fun k hk=>g.block k (hf k hk) (hr k hk)⟩,fun k hk=>g.sub k (hf k hk),g.has⟩
def Own (w:World) (X:XS) (lo e k:Nat) (v:Value) (rows:List (List Value)):Prop:=
 (∀r∈rows,r.length=k)∧w.ownsRow lo e k v rows.length rows.flatten∧ ∀g,v.ownBlock=some g→X g
theorem Own.nil (w:World) (X:XS) (lo e k:Nat):Own w X lo e k (.slice none 0 0) []:=⟨by simp,World.ownsRow_nil w lo e k,by simp [ec]⟩
theorem Own.sl {lo e k:Nat} {v:Value} {rows:List (List Value)} (h:Own w X lo e k v rows):Sl w X k v rows:=by
 obtain⟨h1,h2,h3⟩:=h;rcases h2.2 with⟨rfl,hn⟩|⟨g,cap,cur,rfl,hb,hg,jh,iB,lR,ht⟩
 ·have:rows=[]:=fD hn;subst this;exact Sl.nil w X k
 ·have hm:cap≤2^63-1:=iB;refine⟨h1,af jh hm,_,cap,rfl,fun _=>⟨g,0,rfl,h3 g rfl,cur,e,(0,0),hg,fun j v hj=>?_⟩,by simp,jh,hm⟩;rw [←ht,jN] at hj;split at hj
  ·simpa using hj
  ·cases hj
theorem Own.kp {lo e k:Nat} {v:Value} {rows:List (List Value)} {w':World} (h:Own w X lo e k v rows) (hk:Kp X w w'):Own w' X lo e k v rows:=by
 obtain⟨h1,h2,h3⟩:=h;refine⟨h1,⟨h2.1,?_⟩,h3⟩;rcases h2.2 with h|⟨g,cap,cur,rfl,hb,hg,hr⟩
 ·exact .inl h
 ·exact .inr ⟨g,cap,cur,rfl,hb,by rw [hk.block g (h3 g rfl)];exact hg,hr⟩
theorem Own.mono {lo e k:Nat} {v:Value} {rows:List (List Value)} {Y:XS} (h:Own w X lo e k v rows) (hs: ∀k,X k→Y k):Own w Y lo e k v rows:=
 ⟨h.1,h.2.1,fun g hg=>hs g (h.2.2 g hg)⟩
theorem Own.since {lo e k:Nat} {v:Value} {rows:List (List Value)} {Y:XS} {w':World} (h:Own w X lo e k v rows) (hs:ak X w Y w'):Own w' Y lo e k v rows:=
 (h.kp hs.kp).mono hs.sub
theorem Own.low {lo Vh e k:Nat} {v:Value} {rows:List (List Value)} (h:Own w X lo e k v rows) (hl:Vh≤lo):Own w X Vh e k v rows:=by
 obtain⟨h1,h2,h3⟩:=h;refine⟨h1,⟨h2.1,?_⟩,h3⟩;rcases h2.2 with h|⟨g,cap,cur,rfl,hb,hr⟩
 ·exact .inl h
 ·exact .inr ⟨g,cap,cur,rfl,af hl hb,hr⟩
theorem Own.ge {lo e k:Nat} {v:Value} {rows:List (List Value)} (h:Own w X lo e k v rows) {g:Nat} (hg:v.ownBlock=some g):lo≤g∧g<w.heap.size:=h.2.1.lt g hg
theorem Own.tight {lo e k:Nat} {v:Value} {rows:List (List Value)} (h:Own w X lo e k v rows):Own w (fun g=>lo≤g∧g<w.heap.size) lo e k v rows:=
 ⟨h.1,h.2.1,fun _ hg=>h.ge hg⟩
theorem gQ {k:Nat} : ∀{rows:List (List Value)},(∀r∈rows,r.length=k)→rows.flatten.length=rows.length*k
 |[],_=>by simp
 |r::rs,h=>by
  rw [dP,ae,h r (by simp),gQ fun r hr=>h r (by simp [hr]),bP,Nat.succ_mul,Nat.add_comm]
theorem EB {t e len:Nat} {parts:Array (Nat×Value)} {k:Nat} {rows:List (List Value)} {N:Value→World→XS→Prop} (cells:Array Value) (z:Value)
  (hX: ∀k,X k→k<w.heap.size) (hu:P.underlying t=some (.slice e)) (hz:(P.info? e).bind (fun i=>i.zero.map fun z=>(i.size,z))=some (k,z))
  (Wm:0<len*k) (Mj:len*k≤2^24)
  (h:mZ (fun i=>some (i*k,k)) ((wK (len*k)).map (z.cells[· % z.cells.size]!)) parts.toList=some cells)
  (EC: ∀r∈rows,r.length=k) (hlen:rows.length=len) (hc:cells.toList=rows.flatten)
  (n: ∀v w' X',ak X w X' w'→Own w' X' w.heap.size e k v rows→N v w' X'):eV P R X w m (kH t len parts) N:=by
 intro wa hk;cases hq:P.info? e with
 |none=>simp [hq] at hz
 |some ie=>
  cases lH:ie.zero with
  |none=>simp [hq,lH] at hz
  |some z'=>
   simp only [hq,lH,cJ,bH,ax,dr] at hz;obtain⟨rfl,rfl⟩:=hz;have hr:=run_buildSlice (P:=P) wa t e len parts cells ie z' hu hq lH zQ zQ h;unfold jt;simp only [vS,bL,hr,bk,cH];have hx:Ext wa (wa.alloc (.cells cells e)):=Ext.alloc _ _;have lR:cells.size=len*ie.size:=by
    have:=congrArg List.length hc;simp only [dJ] at this;rw [this,gQ EC,hlen]
   have age:0<ie.size:=Nat.pos_of_ne_zero fun e=>by simp [e] at Wm
   have hle:len≤2^24:=af (Nat.le_mul_of_pos_right len age) Mj;have zH:=vg (e:=e) (base:=w.heap.size) (size:=ie.size) wa cells len hk.size (by simp only [maxLen];omega) lR;refine⟨Step.fk hx,n _ _ _ (ak.fk hX hk hx) ⟨EC,by rw [hlen,←hc];exact zH,fun g hg=>?_⟩⟩;simp only [ec,ax] at hg;subst hg;exact .inr ⟨bK _,by simp⟩
theorem ZQ {t e k:Nat} {N:Value→World→XS→Prop} (hX: ∀k,X k→k<w.heap.size) (hu:P.underlying t=some (.slice e)) (hz:(P.info? e).map (·.size)=some k)
  (n: ∀v w' X',ak X w X' w'→Own w' X' w.heap.size e k v []→N v w' X'):eV P R X w m (kH t 0 #[]) N:=by
 intro wa hk;cases hq:P.info? e with
 |none=>simp [hq] at hz
 |some ie=>
  unfold jt;have hr:(kH t 0 #[]).run P wa= .ok (.slice (some ⟨wa.heap.size,0,none⟩) 0 0) (wa.alloc (.cells #[] e)):=by
   simp [kH,run_underlying hu,sizeOf,typeInfo,hq,mZ,newRow];have hz0: ∀f:Nat→Value,Array.map f (wK 0)= #[]:=fun f=>Array.eq_empty_of_size_eq_zero (by simp);rw [hz0]
  simp only [vS,bL,hr,bk,cH];have hx:Ext wa (wa.alloc (.cells #[] e)):=Ext.alloc _ _;have zH:=vg (e:=e) (base:=w.heap.size) (size:=k) wa #[] 0 hk.size (by simp [maxLen]) (by simp);refine⟨Step.fk hx,n _ _ _ (ak.fk hX hk hx) ⟨by simp,zH,fun g hg=>?_⟩⟩;simp only [ec,ax] at hg;subst hg;exact .inr ⟨bK _,by simp⟩
theorem Sl.src {k:Nat} {v:Value} {rows:List (List Value)} (h:Sl w X k v rows):
  v= .slice none 0 0∧rows=[]∨ ∃a cap,v= .slice (some a) rows.length cap∧ ∀j u,rows.flatten[j]? =some u→w.cell? (a.add j)=some u:=by
 obtain⟨h1,h2,base,cap,rfl,hc,hn,hle,_⟩:=h;cases base with
 |none=>
  cases rows with
  |nil=>exact .inl ⟨by simp [hn rfl],rfl⟩
  |cons r rs=>obtain⟨_,_,hh,_⟩:=hc (by simp);cases hh
 |some a=>
  refine .inr ⟨a,cap,rfl,fun j u hj=>?_⟩;cases rows with
  |nil=>simp at hj
  |cons r rs=>
   obtain⟨b,o,hb,lR⟩:=hc (by simp);cases hb;rw [uv];exact lR.range j u hj
theorem y4 {t ty e k bytes lo:Nat} {v s:Value} {rows dq:List (List Value)} {N:Value→World→XS→Prop} (z:Value)
  (hu:P.underlying t=some (.slice e)) (hi:(P.info? e).bind (fun i=>i.zero.map fun z=>(i.size,i.bytes,z))=some (k,bytes,z)) (oD:z.cells.size=k) (nS:0<k)
  (hX: ∀k,X k→k<w.heap.size) (eo:lo≤w.heap.size) (own:Own w X lo e k v rows) (src:Sl w X k s dq) (h1: ∀r∈dq,∀u∈r,one u=true)
  (hb:(rows.length+dq.length)*bytes≤140737488355328) (hl:rows.length+dq.length≤2^63-1)
  (n: ∀v' w' X',Grown X w X' w' v.ownBlock→Own w' X' lo e k v' (rows++dq)→(v'.ownBlock=v.ownBlock∨ ∃g,v'.ownBlock=some g∧w.heap.size≤g)→N v' w' X'):
  eV P R X w true (dL #[t,t] ty #[v,s]) N:=by
 intro wa hk;have own:=own.kp hk;have src:=src.kp hk;cases hq:P.info? e with
 |none=>simp [hq] at hi
 |some ie=>
  cases lH:ie.zero with
  |none=>simp [hq,lH] at hi
  |some z'=>
   simp only [hq,lH,cJ,bH,ax,dr] at hi;obtain⟨rfl,rfl,rfl⟩:=hi;unfold jt;rcases src.src with⟨rfl,rfl⟩|⟨a,cap,rfl,B2⟩
   ·have hr:=run_append_owned_none (P:=P) (w:=wa) lo t ty e ie ie.size hu hq v rows.length rows.flatten own.2.1;simp only [vS,bL,hr,bk,cH];have hx:=Ext.refl wa;have hs:=ak.fk hX hk hx;refine⟨Step.fk hx,n _ _ _ ⟨hs.kp.os,hs.kp.tape,hs.kp.output,hs.kp.size,fun k h _=>hs.kp.block k h,hs.sub,hs.has⟩ ?_ (.inl rfl)⟩;rw [fh];exact own.mono (fun k h=>Or.inl h)
   ·have qe:dq.flatten.length=dq.length*ie.size:=gQ src.1;obtain⟨v',w',hr,zH,hg,_,fm⟩:=run_append_own_at (P:=P) wa lo t ty e ie z' ie.size ie.bytes hu hq lH rfl rfl oD nS v rows.length rows.flatten own.2.1
     a dq.length cap dq.flatten qe B2 (fun u hu=>by
      obtain⟨r,hr,SD⟩:=List.mem_flatten.1 hu;rw [←AE];exact h1 r hr u SD) hl hb (af eo hk.size)
    simp only [vS,bL,hr,bk,cH];have hgb: ∀k,k<wa.heap.size→some k≠v.ownBlock→w'.heap[k]? =wa.heap[k]? :=hg.block;refine⟨⟨hg.os,hg.tape,hg.output,hg.size,fun k Ka nk=>hg.block k Ka fun e=>nk (own.2.2 k e.symm)⟩,n _ _ _ ?_ ⟨?_,?_,?_⟩ ?_⟩
    ·exact⟨hg.os.trans hk.os,hg.tape.trans hk.tape,hg.output.trans hk.output,af hk.size hg.size,
      fun k hx bW=>(hg.block k (aI (hX k hx) hk.size) bW).trans (hk.block k hx),fun k h=>.inl h,
      fun k h=>h.elim (fun h=>aI (hX k h) (af hk.size hg.size)) (fun h=>h.2)⟩
    ·intro r hr;rcases List.mem_append.1 hr with h|h
     ·exact own.1 r h
     ·exact src.1 r h
    ·rw [ae,List.flatten_append];exact zH
    ·intro g Fh;rcases fm with h|h
     ·exact .inl (own.2.2 g (h▸Fh))
     ·rw [Fh] at h;cases h;exact .inr ⟨bK _,(zH.lt _ Fh).2⟩
    ·rcases fm with h|h
     ·exact .inl h
     ·exact .inr ⟨_,h,hk.size⟩
theorem KZ {t e:TypeId} (ht:P.underlying t=some (.slice e)) (d:Nat) (base:Option Addr) (n c:Nat) (w:World):
  (ig (d+1) t (.slice base n c) (.slice none 0 0)).run P w= .ok base.isNone w:=by
 cases base<;>simp [ig,run_underlying ht]
theorem SE {t e:TypeId} {xo yo:Operand} {base:Option Addr} {n c:Nat} {N:Value→Prop} (ht:P.underlying t=some (.slice e)) (h:N (.bool base.isNone)):
  ad P X w (aH .eql t xo yo (.slice base n c) (.slice none 0 0)) N:=by
 refine cx (fun wa=>?_) h;have:(Op.equal t (.slice base n c) (.slice none 0 0)).run P wa= .ok base.isNone wa:=KZ ht 9999 base n c wa;simp [aH,eqGuard,binOp,this]
def Iw (P:Program):List Field→Nat→Bool
 |[],_=>true
 |f::r,i=>f.name != "_" &&(match P.underlying f.type with|some (.int _)=>true|_=>false)&&f.offset==i&&Iw P r (i+1)
theorem tw (w:World) (d:Nat) (as bs:List Int): ∀(fs:List Field) (i:Nat),Iw P fs i=true→as.length=i+fs.length→bs.length=i+fs.length→
  (rK (d+1) (as.map (aU .i64)).toArray (bs.map (aU .i64)).toArray fs).run P w= .ok (decide (as.drop i=bs.drop i)) w
 |[],i,_,ha,hb=>by
  simp only [List.length_nil,Nat.add_zero] at ha hb;rw [jT zQ,jT zQ];simp [rK]
 |f::r,i,h,ha,hb=>by
  simp only [Iw,aV,bne_iff_ne,ne_eq,beq_iff_eq] at h;obtain⟨⟨⟨hn,hu⟩,ho⟩,hr⟩:=h;simp only [bP] at ha hb;have hia:i<as.length:=by omega
  have hib:i<bs.length:=by omega
  cases hd:P.underlying f.type with
  |none=>simp [hd] at hu
  |some ty=>
   cases ty<;>simp only [hd,bh] at hu
   rename_i q;have x5:(isAgg f.type).run P w= .ok false w:=by simp [isAgg,run_underlying hd]
   have hpa:(part f.type (as.map (aU .i64)).toArray f.offset).run P w= .ok (.int .i64 as[i]) w:=by
    simp [part,x5,ho,hia]
   have VY:(part f.type (bs.map (aU .i64)).toArray f.offset).run P w= .ok (.int .i64 bs[i]) w:=by
    simp [part,x5,ho,hib]
   have ih:=tw w d as bs r (i+1) hr zQ zQ;have hk:(as.drop i=bs.drop i)↔(as[i]=bs[i]∧as.drop (i+1)=bs.drop (i+1)):=by
    rw [fz hia,fz hib,List.cons.injEq]
   simp only [hk];clear hk;by_cases he:as[i]=bs[i]
   ·simp [rK,hn,hpa,VY,run_equalIn_int w d f.type .i64 q _ _ hd,he,ih]
   ·simp [rK,hn,hpa,VY,run_equalIn_int w d f.type .i64 q _ _ hd,he]
def gx (P:Program) (t n:Nat):Bool:=match P.underlying t with
 |some (.struct fs)=>fs.toList.length==n&&Iw P fs.toList 0&&!P.stoodInHeld t&&!P.eqGuardType P.depth t
 |_=>false
theorem yf {t n:Nat} (h:gx P t n=true) (as bs:List Int) (ha:as.length=n) (hb:bs.length=n) (w:World):
  (ig 10000 t (.agg (as.map (aU .i64)).toArray) (.agg (bs.map (aU .i64)).toArray)).run P w= .ok (decide (as=bs)) w:=by
 unfold gx at h;split at h
 ·rename_i fs hu;simp only [aV,beq_iff_eq,dH] at h;have hf:P.fieldsOf t=fs:=by simp [Program.fieldsOf,hu]
  rw [run_equalIn_struct w 9999 t _ _ (by rw [hf];exact hu) h.1.2,hf];have:=tw (P:=P) w 9998 as bs fs.toList 0 h.1.1.2 (by rw [ha,h.1.1.1];omega) (by rw [hb,h.1.1.1];omega);simpa using this
 ·cases h
theorem B3 {t n:Nat} (h:gx P t n=true):P.eqGuardType P.depth t=false:=by
 unfold gx at h;split at h
 ·simp only [aV,dH] at h;exact h.2
 ·cases h
theorem abB {N:Value→Prop} {t:TypeId} {a b c a' b' c':Int} {xo yo:Operand} (h:gx P t 3=true) (k:N (.bool (decide (a=a'∧b=b'∧c=c')))):
  ad P X w (aH .eql t xo yo (.agg #[.int .i64 a,.int .i64 b,.int .i64 c]) (.agg #[.int .i64 a',.int .i64 b',.int .i64 c'])) N:=
 Rz (b:=decide (a=a'∧b=b'∧c=c')) (B3 h) (fun wa=>by
  have:=yf h [a,b,c] [a',b',c'] rfl rfl wa;simpa using this) k
theorem abC {N:Value→Prop} {t:TypeId} {a b c a' b' c':Int} {xo yo:Operand} (h:gx P t 3=true) (k:N (.bool (!decide (a=a'∧b=b'∧c=c')))):
  ad P X w (aH .neq t xo yo (.agg #[.int .i64 a,.int .i64 b,.int .i64 c]) (.agg #[.int .i64 a',.int .i64 b',.int .i64 c'])) N:=
 abA (b:=decide (a=a'∧b=b'∧c=c')) (B3 h) (fun wa=>by
  have:=yf h [a,b,c] [a',b',c'] rfl rfl wa;simpa using this) k
theorem VZ {t:TypeId} {v:Value} {N:Value→World→XS→Prop} (hX: ∀k,X k→k<w.heap.size)
  (n: ∀b w' X',w.heap.size≤b→ak X w X' w'→X' b→w'.heap[b]? =some (.cells v.cells.toList.toArray t (0,0))→N (ptr b 0) w' X'):eV P R X w m (cE t v) N:=by
 intro wa hk;unfold jt;have hr:(cE t v).run P wa= .ok (ptr wa.heap.size 0) (wa.alloc (.cells v.cells t)):=by simp [cE,newVar,newRow]
 simp only [vS,bL,hr,bk,cH];have hx:Ext wa (wa.alloc (.cells v.cells t)):=Ext.alloc _ _;exact⟨Step.fk hx,n _ _ _ hk.size (ak.fk hX hk hx) (.inr ⟨bK _,by simp⟩) (by simpa using heap_alloc_new wa _)⟩
def bI (w:World) (X:XS) (b:Nat) (cs:List Value) (ty:TypeId):Prop:=X b∧w.heap[b]? =some (.cells cs.toArray ty (0,0))
theorem bI.kp {b:Nat} {cs:List Value} {ty:TypeId} {w':World} (h:bI w X b cs ty) (hk:Kp X w w'):bI w' X b cs ty:=⟨h.1,by rw [hk.block b h.1];exact h.2⟩
theorem bI.mono {b:Nat} {cs:List Value} {ty:TypeId} {Y:XS} (h:bI w X b cs ty) (hs: ∀k,X k→Y k):bI w Y b cs ty:=⟨hs _ h.1,h.2⟩
theorem bI.since {b:Nat} {cs:List Value} {ty:TypeId} {Y:XS} {w':World} (h:bI w X b cs ty) (hs:ak X w Y w'):bI w' Y b cs ty:=(h.kp hs.kp).mono hs.sub
theorem bI.cells {b:Nat} {cs:List Value} {ty:TypeId} (h:bI w X b cs ty):Cells w X b 0 cs:=⟨h.1,_,_,_,h.2,fun j v hj=>by simpa using hj⟩
theorem abD {t sz b o:Nat} {cs:List Value} {ty:TypeId} {v:Value} {N:Value→World→XS→Prop} (h:bI w X b cs ty) (ht:(P.info? t).map (·.size)=some sz)
  (hl:o+sz≤cs.length) (hv:v.cells.size=sz) (h1:v.cells.toList.all one=true) (hX: ∀k,X k→k<w.heap.size)
  (n: ∀w' X',Grown X w X' w' (some b)→bI w' X' b (cz cs o v.cells.toList) ty→N undef w' X'):eU P R X w true (Instr.storeAt t (ptr b o) v) N:=by
 intro wa hk;have hb:=(h.kp hk).2;unfold jt;have hr:=Jz (P:=P) ht hb o (by simpa using hl) v hv h1;simp only [gi] at hr;simp only [uS,bL,hr,bk,cH];have fB:(wa.setRow b (cz cs o v.cells.toList).toArray).heap.size=wa.heap.size:=by simp
 refine⟨⟨rfl,rfl,rfl,by rw [fB];exact bK _,fun k _ hx=>setRow_other wa b k _ fun e=>hx (e▸h.1)⟩,n _ _ ?_ ⟨.inl h.1,setRow_heap wa b _ _ ty _ hb⟩⟩;refine⟨hk.os,hk.tape,hk.output,by rw [fB];exact hk.size,fun k hx bW=>?_,fun k h=>.inl h,fun k h=>?_⟩
 ·rw [setRow_other wa b k _ (fun e=>bW (by rw [e])),hk.block k hx]
 ·rw [fB];exact h.elim (fun h=>aI (hX k h) hk.size) (fun h=>by have:=h.2;rwa [fB] at this)
variable {P : Program} {α : Type}
end Go.bu
set_option linter.unusedSectionVars false
set_option linter.unusedSimpArgs false
namespace Go.bu
variable {P : Program} {R : Ending → World → Prop} {X : XS} {w : World} {m : Bool} {κ : Type} [DecidableEq κ]
abbrev iq (κ:Type):=κ×Value×Nat
def km (kv:κ→Value) (x:iq κ):MapEntry:=⟨kv x.1,x.2.1,x.2.2⟩
def nN (k:κ):List (iq κ)→Nat→Option (Nat×Value)
 |[],_=>none
 |x::r,i=>if k=x.1 then some (i,x.2.1)else nN k r (i+1)
structure rA (P:Program) (kt:TypeId) (kv:κ→Value):Prop where
 aF: ∀e k w,(fw e 10000 kt (kv k)).run P w= .ok () w
 find: ∀k (l:List (iq κ)) w,(pq kt (kv k) (l.map (km kv))).run P w= .ok (nN k l 0) w
 same: ∀k,kd 10000 (kv k) (kv k)=true
theorem Hh (a b:ByteArray):(a==b)=decide (a=b):=by
 rw [beq_toListBytes];have:a.toList=b.toList↔a=b:=by
  constructor
  ·intro h;rw [gK,gK] at h;obtain⟨⟨x⟩⟩:=a;obtain⟨⟨y⟩⟩:=b;simpa using h
  ·intro h;rw [h]
 by_cases h:a=b
 ·simp [h]
 ·simp [h,this]
theorem F6 {kt:TypeId} (h:P.underlying kt=some .string) (e:Bool) (n:Nat) (k:ByteArray) (w:World):
  (fw e (n+1) kt (.string k)).run P w= .ok () w:=by simp [fw,run_underlying h]
theorem K0 {kt:TypeId} {fs:Array Field} (h:P.underlying kt=some (.struct fs)) (e:Bool) (n:Nat) (cs:Array Value) (w:World)
  (hr:(forIn fs ke fun f (_:PUnit)=>(if f.name≠ "_" then(do
    let v←part f.type cs f.offset
    fw e n f.type v
    pure (nQ ke))
   else pure (nQ ke):Sem (ForInStep PUnit))).run P w= .ok ke w):
  (fw e (n+1) kt (.agg cs)).run P w= .ok () w:=by
 simp only [fw,bL,run_underlying h,bk];exact(congrArg (fun r=>r.andThen fun _ w'=>qH P (Pure.pure ()) w') hr).trans rfl
theorem wi {kt:TypeId} (h:P.underlying kt=some .string):rA P kt (fun s:ByteArray=>Value.string s) where
 aF e k w:=F6 h e 9999 k w
 find k l w:=by
  have: ∀(l:List (iq ByteArray)) (i:Nat),gX .string (.string k) (l.map (km fun s=>Value.string s)) i=some (nN k l i):=by
   intro l
   induction l with
   |nil=>intro i;rfl
   |cons x r ih=>
    intro i;by_cases hk:k=x.1
    ·simp [gX,km,tA,nN,hk,Hh]
    ·simp [gX,km,tA,nN,hk,ih,Hh]
  simp [pq,run_underlying h,this]
 same k:=by simp [kd,Hh]
theorem zM (w:World) (e:Bool) (d:Nat) (as:List Int): ∀(fs:List Field) (i:Nat),Iw P fs i=true→as.length=i+fs.length→
  (forIn fs ke fun f (_:PUnit)=>(if f.name≠ "_" then(do
    let v←part f.type (as.map (aU .i64)).toArray f.offset
    fw e (d+1) f.type v
    pure (nQ ke))
   else pure (nQ ke):Sem (ForInStep PUnit))).run P w= .ok ke w
 |[],i,_,_=>by simp
 |f::r,i,h,ha=>by
  simp only [Iw,aV,bne_iff_ne,ne_eq,beq_iff_eq] at h;obtain⟨⟨⟨hn,hu⟩,ho⟩,hr⟩:=h;simp only [bP] at ha;have hia:i<as.length:=by omega
  cases hd:P.underlying f.type with
  |none=>simp [hd] at hu
  |some ty=>
   cases ty<;>simp only [hd,bh] at hu
   rename_i q;have x5:(isAgg f.type).run P w= .ok false w:=by simp [isAgg,run_underlying hd]
   have hpa:(part f.type (as.map (aU .i64)).toArray f.offset).run P w= .ok (.int .i64 as[i]) w:=by
    simp [part,x5,ho,hia]
   have hck:(fw e (d+1) f.type (.int .i64 as[i])).run P w= .ok () w:=by
    simp [fw,run_underlying hd]
   have ih:=zM w e d as r (i+1) hr zQ;rw [List.forIn_cons];simp only [ne_eq,hn,not_false_eq_true,if_true,bL,hpa,hck,bk,cH];exact ih
theorem PS (d:Nat) (as:List Int):kd (d+1) (.agg (as.map (aU .i64)).toArray) (.agg (as.map (aU .i64)).toArray)=true:=by
 have: ∀l:List Int,((l.map (aU .i64)).zip (l.map (aU .i64))).all (fun (x,y)=>kd d x y)=true:=by
  intro l
  induction l with
  |nil=>rfl
  |cons x r ih=>
   simp only [bB,List.zip_cons_cons,List.all_cons,ih,Bool.and_true];cases d<;>simp [kd]
 simp [kd,this]
theorem abE {kt n:Nat} (h:gx P kt n=true) (as:κ→List Int) (hlen: ∀k,(as k).length=n) (ahN: ∀a b,as a=as b→a=b):
  rA P kt (fun k:κ=>aj ((as k).map (aU .i64)).toArray) where
 aF e k w:=by
  have h0:=h;unfold gx at h;split at h
  ·rename_i fs hu;simp only [aV,beq_iff_eq,dH] at h;have hr:=zM (P:=P) w e 9998 (as k) fs.toList 0 h.1.1.2 (by rw [hlen,h.1.1.1];omega);rw [Array.forIn_toList] at hr;exact K0 hu e 9999 _ w hr
  ·cases h
 find k l w:=by
  have h0:=h;unfold gx at h0;split at h0
  ·rename_i fs hu;have ahO: ∀(l:List (iq κ)) (i:Nat),(qp kt (.agg ((as k).map (aU .i64)).toArray) (l.map (km fun k=>aj ((as k).map (aU .i64)).toArray)) i).run P w= .ok (nN k l i) w:=by
    intro l
    induction l with
    |nil=>intro i;simp [qp,nN]
    |cons x r ih=>
     intro i;have he:=yf h (as k) (as x.1) (hlen _) (hlen _) w;simp only [bB,qp,km,Op.equal,Op.maxDepth,bL,he,bk,nN];by_cases hk:k=x.1
     ·subst hk;simp
     ·have: ¬as k=as x.1:=fun e=>hk (ahN _ _ e);simp only [this,decide_false,bh,if_false,hk];exact ih _
   cases l with
   |nil=>simp [pq,run_underlying hu,gX,nN]
   |cons x r=>
    have:=ahO (x::r) 0;simp only [pq,bL,run_underlying hu,bk];simp only [bB,gX,km,tA] at this⊢;exact this
  ·cases h0
 same k:=PS 9999 (as k)
def jR (w:World) (X:XS) (b:Nat) (kv:κ→Value) (es:List (iq κ)) (clock:Nat):Prop:=
 X b∧w.heap[b]? =some (.map (es.map (km kv)).toArray clock)∧(es.map (·.1)).Nodup∧(es.map (·.2.2)).Nodup∧ ∀x∈es,x.2.2<clock
theorem jR.kp {b:Nat} {kv:κ→Value} {es:List (iq κ)} {c:Nat} {w':World} (h:jR w X b kv es c) (hk:Kp X w w'):jR w' X b kv es c:=
 ⟨h.1,by rw [hk.block b h.1];exact h.2.1,h.2.2⟩
theorem jR.mono {b:Nat} {kv:κ→Value} {es:List (iq κ)} {c:Nat} {Y:XS} (h:jR w X b kv es c) (hs: ∀k,X k→Y k):jR w Y b kv es c:=⟨hs _ h.1,h.2⟩
theorem jR.since {b:Nat} {kv:κ→Value} {es:List (iq κ)} {c:Nat} {Y:XS} {w':World} (h:jR w X b kv es c) (hs:ak X w Y w'):jR w' Y b kv es c:=
 (h.kp hs.kp).mono hs.sub
def CG (k:κ) (es:List (iq κ)):Option Value:=(es.find? fun x=>decide (x.1=k)).map (·.2.1)
theorem K1 (k:κ): ∀(es:List (iq κ)) (i:Nat),nN k es i=(es.findIdx? fun x=>decide (x.1=k)).bind fun j=>(es[j]?).map fun x=>(i+j,x.2.1)
 |[],i=>rfl
 |x::r,i=>by
  unfold nN;by_cases h:k=x.1
  ·simp [h,gS]
  ·rw [if_neg h,K1 k r (i+1)];have h': ¬x.1=k:=fun e=>h e.symm;simp only [gS,h',decide_false,bh,if_false];cases r.findIdx? fun x=>decide (x.1=k)with
   |none=>rfl
   |some j=>simp [Nat.add_assoc,Nat.add_comm 1 j]
theorem Ps (k:κ): ∀(es:List (iq κ)) (i:Nat),(nN k es i).map (·.2)=CG k es
 |[],i=>rfl
 |x::r,i=>by
  unfold nN CG;by_cases h:k=x.1
  ·simp [h]
  ·have h': ¬x.1=k:=fun e=>h e.symm;rw [if_neg h,Ps k r (i+1)];simp [CG,h']
theorem Xa {t kt et b c:Nat} {kv:κ→Value} {es:List (iq κ)} {k:κ} {N:Value→Prop} (z:Value) (h:jR w X b kv es c) (K:rA P kt kv)
  (ht:P.underlying t=some (.map kt et)) (hz:(P.info? et).bind (·.zero)=some z)
  (n:N (.tuple #[(CG k es).getD z,.bool (CG k es).isSome])):ad P X w (Instr.lookup t (.map (some b)) (kv k) true) N:=by
 refine AT _ (fun wa hk=>?_) n;have hb:=(h.kp hk).2.1;cases hi:P.info? et with
 |none=>simp [hi] at hz
 |some inf=>
  have AB:inf.zero=some z:=by simpa [hi] using hz
  have hg:=Ps k es 0;simp only [Instr.lookup,bL,run_underlying ht,bk,getObj,qH,hb,K.aF,ey,K.find];cases hf:nN k es 0 with
  |none=>
   rw [hf] at hg;simp only [Option.map_none] at hg;simp [zeroValue,typeInfo,hi,AB,←hg,K.find,hf]
  |some r=>
   rw [hf] at hg;simp only [bH] at hg;simp [←hg,K.find,hf]
theorem Xb {t:TypeId} {kv:κ→Value} {N:Value→World→XS→Prop} (hX: ∀k,X k→k<w.heap.size)
  (n: ∀b w' X',w.heap.size≤b→ak X w X' w'→jR w' X' b kv [] 0→N (.map (some b)) w' X'):eV P R X w m (gZ t none) N:=by
 intro wa hk;unfold jt;have hr:(gZ t none).run P wa= .ok (.map (some wa.heap.size)) (wa.alloc (.map #[] 0)):=by simp [gZ]
 simp only [vS,bL,hr,bk,cH];have hx:Ext wa (wa.alloc (.map #[] 0)):=Ext.alloc _ _;exact⟨Step.fk hx,n _ _ _ hk.size (ak.fk hX hk hx) ⟨.inr ⟨bK _,by simp⟩,by simpa using heap_alloc_new wa _,by simp,by simp,by simp⟩⟩
open Go.ChangeMaps (setBlock)
theorem Hi {b:Nat} {o:Obj} {wa:World} (hX: ∀k,X k→k<w.heap.size) (hk:Kp X w wa):Grown X w (grow X wa (setBlock wa b o)) (setBlock wa b o) (some b):=by
 have hs:(setBlock wa b o).heap.size=wa.heap.size:=by simp [setBlock]
 refine⟨hk.os,hk.tape,hk.output,by rw [hs];exact hk.size,fun k hx bW=>?_,fun k h=>.inl h,fun k h=>?_⟩
 ·rw [←hk.block k hx];have:b≠k:=fun e=>bW (by rw [e]);simp [setBlock,eS,this]
 ·rw [hs];exact h.elim (fun h=>aI (hX k h) hk.size) (fun h=>by have:=h.2;rwa [hs] at this)
theorem SF {b:Nat} {o:Obj} {wa:World} (hb:X b):Fr X wa (setBlock wa b o):=by
 refine⟨rfl,rfl,rfl,by simp [setBlock],fun k _ hx=>?_⟩;have:b≠k:=fun e=>hx (e▸hb);simp [setBlock,eS,this]
theorem Mk {b:Nat} {o:Obj} {wa:World} (hb:b<wa.heap.size):(setBlock wa b o).heap[b]? =some o:=by
 simp [setBlock,eS,hb]
theorem run_setObj_map {wa:World} {b:Nat} {es:Array MapEntry} {c:Nat} (hb:wa.heap[b]? =some (.map es c)) (o:Obj):(setObj b o).run P wa= .ok () (setBlock wa b o):=by
 simp [setObj,qH,hb,setBlock]
def Bm (k:κ) (v:Value) (c:Nat) (es:List (iq κ)):List (iq κ)×Nat:=
 match es.findIdx? fun x=>decide (x.1=k)with
 |some i=>(es.modify i fun x=>(x.1,v,x.2.2),c)
 |none=>(es++[(k,v,c)],c+1)
theorem yg {β γ:Type} (g:β→γ) (f:β→β) (hf: ∀x,g (f x)=g x): ∀(l:List β) (i:Nat),(l.modify i f).map g=l.map g
 |[],i=>by simp
 |x::r,0=>by simp [hf]
 |x::r,i+1=>by simp [yg g f hf r i]
theorem mem_modify {β:Type} {f:β→β} : ∀{l:List β} {i:Nat} {y:β},y∈l.modify i f→ ∃x∈l,y=x∨y=f x
 |[],i,y,h=>by simp at h
 |x::r,0,y,h=>by
  simp only [List.modify_zero_cons,List.mem_cons] at h;rcases h with h|h
  ·exact⟨x,by simp,.inr h⟩
  ·exact⟨y,by simp [h],.inl rfl⟩
 |x::r,i+1,y,h=>by
  simp only [List.modify_succ_cons,List.mem_cons] at h;rcases h with h|h
  ·exact⟨x,by simp,.inl h⟩
  ·obtain⟨z,hz,he⟩:=mem_modify h;exact⟨z,by simp [hz],he⟩
theorem ZR {t kt et b c:Nat} {kv:κ→Value} {es:List (iq κ)} {k:κ} {v:Value} {N:Value→World→XS→Prop} (h:jR w X b kv es c) (K:rA P kt kv)
  (ht:P.underlying t=some (.map kt et)) (hX: ∀k,X k→k<w.heap.size)
  (n: ∀w' X',Grown X w X' w' (some b)→jR w' X' b kv (Bm k v c es).1 (Bm k v c es).2→N undef w' X'):
  eU P R X w true (dE t (.map (some b)) (kv k) v) N:=by
 intro wa hk;have hM:=h.kp hk;have hb:=hM.2.1;have cK:b<wa.heap.size:=(Array.getElem?_eq_some_iff.1 hb).1;unfold jt;have hr:(dE t (.map (some b)) (kv k) v).run P wa= .ok () (setBlock wa b (.map ((Bm k v c es).1.map (km kv)).toArray (Bm k v c es).2)):=by
  simp only [dE,bL,run_underlying ht,bk,getObj,qH,hb,K.aF,ey,K.find,K1];unfold Bm;cases hf:es.findIdx? fun x=>decide (x.1=k)with
  |none=>simp [run_setObj_map hb,km]
  |some j=>
   have hj:=List.findIdx?_eq_some_iff_getElem.1 hf;obtain⟨rv,hjk,_⟩:=hj;have aeU:es[j].1=k:=by simpa using hjk
   simp only [cJ,bT rv,bH,ee,bL];have fV:(tW (((es.map (km kv)).toArray[j]?).map (·.key)|>.getD (kv k)) (kv k)).run P wa= .ok (kv k) wa:=by
    simp [tW,rv,km,aeU,K.same]
   rw [fV];simp only [bk,run_setObj_map hb]
   congr 3
   rw [List.modify_toArray]
   congr 1
   apply List.ext_getElem?;intro q;simp only [List.getElem?_modify,dQ];by_cases hq:j=q
   ·subst hq;simp [bT rv,km,aeU]
   ·simp [hq]
 simp only [uS,bL,hr,bk,cH];refine⟨SF hM.1,n _ _ (Hi hX hk) ⟨.inl h.1,Mk cK,?_,?_,?_⟩⟩
 ·unfold Bm;cases hf:es.findIdx? fun x=>decide (x.1=k)with
  |none=>
   simp only [bo,bB,List.map_nil];rw [vf];refine⟨h.2.2.1,by simp,fun a ha y hy=>?_⟩;simp only [en] at hy;subst hy;rintro rfl;obtain⟨x,hx,rfl⟩:=List.mem_map.1 ha;have:=List.findIdx?_eq_none_iff.1 hf x hx;simp at this
  |some j=>simp only;rw [yg (fun x:iq κ=>x.1) (fun x=>(x.1,v,x.2.2)) (fun _=>rfl)];exact h.2.2.1
 ·unfold Bm;cases hf:es.findIdx? fun x=>decide (x.1=k)with
  |none=>
   simp only [bo,bB,List.map_nil];rw [vf];refine⟨h.2.2.2.1,by simp,fun a ha y hy=>?_⟩;simp only [en] at hy;subst hy;rintro rfl;obtain⟨x,hx,he⟩:=List.mem_map.1 ha;have:=h.2.2.2.2 x hx;omega
  |some j=>simp only;rw [yg (fun x:iq κ=>x.2.2) (fun x=>(x.1,v,x.2.2)) (fun _=>rfl)];exact h.2.2.2.1
 ·unfold Bm;cases hf:es.findIdx? fun x=>decide (x.1=k)with
  |none=>
   intro x hx;rcases List.mem_append.1 hx with hx|hx
   ·have:=h.2.2.2.2 x hx;show x.2.2<c+1;omega
   ·simp only [en] at hx;subst hx;exact Nat.lt_succ_self c
  |some j=>
   intro x hx;obtain⟨y,hy,rfl|rfl⟩:=mem_modify hx
   ·exact h.2.2.2.2 _ hy
   ·exact h.2.2.2.2 y hy
def K3 (k:κ) (es:List (iq κ)):List (iq κ):=match es.findIdx? fun x=>decide (x.1=k)with
 |some i=>es.eraseIdx i
 |none=>es
theorem ZS {t kt et tk ty b c:Nat} {kv:κ→Value} {es:List (iq κ)} {k:κ} {N:Value→World→XS→Prop} (h:jR w X b kv es c) (K:rA P kt kv)
  (ht:P.underlying t=some (.map kt et)) (hX: ∀k,X k→k<w.heap.size)
  (n: ∀w' X',Grown X w X' w' (some b)→jR w' X' b kv (K3 k es) c→N (.tuple #[]) w' X'):
  eV P R X w true (iQ #[t,tk] ty #[.map (some b),kv k]) N:=by
 intro wa hk;have hM:=h.kp hk;have hb:=hM.2.1;have cK:b<wa.heap.size:=(Array.getElem?_eq_some_iff.1 hb).1;unfold jt;have lx:(K3 k es).Sublist es:=by
  unfold K3;split
  ·exact List.eraseIdx_sublist _ _
  ·exact List.Sublist.refl _
 have hr:(iQ #[t,tk] ty #[.map (some b),kv k]).run P wa= .ok (.tuple #[]) (setBlock wa b (.map ((K3 k es).map (km kv)).toArray c)):=by
  have e0:(#[t,tk]:Array TypeId)[0]? =some t:=rfl;have e1:(#[Value.map (some b),kv k]:Array Value)[0]? =some (.map (some b)):=rfl;have e2:(#[Value.map (some b),kv k]:Array Value)[1]? =some (kv k):=rfl;simp only [iQ,e0,e1,e2,bL,run_underlying ht,bk,getObj,qH,hb,K.aF,ey,K.find,K1];unfold K3;cases hf:es.findIdx? fun x=>decide (x.1=k)with
  |none=>simp [run_setObj_map hb]
  |some j=>
   obtain⟨rv,_,_⟩:=List.findIdx?_eq_some_iff_getElem.1 hf;simp only [cJ,bT rv,bH,ee,run_setObj_map hb,bk,cH];simp [Array.eraseIdxIfInBounds,rv,Go.ChangeMaps.map_eraseIdx,run_setObj_map hb]
 simp only [vS,bL,hr,bk,cH];exact⟨SF hM.1,n _ _ (Hi hX hk) ⟨.inl h.1,Mk cK,h.2.2.1.sublist (lx.map _),h.2.2.2.1.sublist (lx.map _),fun x hx=>h.2.2.2.2 x (lx.subset hx)⟩⟩
def wL (w:World) (X:XS) (r b:Nat) (kv:κ→Value) (es:List (iq κ)) (c:Nat) (left:List (iq κ)):Prop:=
 jR w X b kv es c∧X r∧r≠b∧ ∃seen:Array Nat,w.heap[r]? =some (.mapIter (some b) c seen c)∧left=es.filter (fun x=>!seen.contains x.2.2)
theorem wL.kp {r b:Nat} {kv:κ→Value} {es left:List (iq κ)} {c:Nat} {w':World} (h:wL w X r b kv es c left) (hk:Kp X w w'):wL w' X r b kv es c left:=
 ⟨h.1.kp hk,h.2.1,h.2.2.1,let⟨s,hs,hl⟩:=h.2.2.2;⟨s,by rw [hk.block r h.2.1];exact hs,hl⟩⟩
theorem wL.mono {r b:Nat} {kv:κ→Value} {es left:List (iq κ)} {c:Nat} {Y:XS} (h:wL w X r b kv es c left) (hs: ∀k,X k→Y k):wL w Y r b kv es c left:=
 ⟨h.1.mono hs,hs _ h.2.1,h.2.2⟩
theorem wL.since {r b:Nat} {kv:κ→Value} {es left:List (iq κ)} {c:Nat} {Y:XS} {w':World} (h:wL w X r b kv es c left) (hs:ak X w Y w'):wL w' Y r b kv es c left:=
 (h.kp hs.kp).mono hs.sub
theorem abF {t kt et b c:Nat} {kv:κ→Value} {es:List (iq κ)} {N:Value→World→XS→Prop} (h:jR w X b kv es c) (ht:P.underlying t=some (.map kt et))
  (hX: ∀k,X k→k<w.heap.size) (n: ∀r w' X',w.heap.size≤r→ak X w X' w'→wL w' X' r b kv es c es→N (ptr r 0) w' X'):
  eV P R X w m (wx t (.map (some b))) N:=by
 intro wa hk;have hM:=h.kp hk;have hb:=hM.2.1;have cK:b<wa.heap.size:=(Array.getElem?_eq_some_iff.1 hb).1;unfold jt;have hr:(wx t (.map (some b))).run P wa= .ok (ptr wa.heap.size 0) (wa.alloc (.mapIter (some b) c #[] c)):=by
  simp [wx,run_underlying ht,getObj,qH,hb]
 simp only [vS,bL,hr,bk,cH];have hx:Ext wa (wa.alloc (.mapIter (some b) c #[] c)):=Ext.alloc _ _;have hs:=ak.fk hX hk hx;exact⟨Step.fk hx,n _ _ _ hk.size hs ⟨h.since hs,.inr ⟨bK _,by simp⟩,by omega,#[],heap_alloc_new wa _,(List.filter_eq_self.2 (by simp)).symm⟩⟩
theorem adz {ty r b c:Nat} {kv:κ→Value} {es left:List (iq κ)} {N:Value→World→XS→Prop} (h:wL w X r b kv es c left) (hX: ∀k,X k→k<w.heap.size)
  (n0:left=[]→ ∀w' X',ak X w X' w'→N (.tuple #[.bool false]) w' X')
  (n1: ∀x∈left,∀w' X',Grown X w X' w' (some r)→wL w' X' r b kv es c (left.filter fun y=>decide (y.2.2≠x.2.2))→
   (∀wa,Kp X' w' wa→(kI (ptr r 0)).run P wa= .ok (.tuple #[kv x.1,x.2.1]) wa)→N (.tuple #[.bool true,kv x.1,x.2.1]) w' X'):
  eV P R X w true (Instr.next (ptr r 0) false ty) N:=by
 intro wa hk;obtain⟨hM,hXr,Zg,seen,hr,Xc⟩:=h.kp hk;have hb:=hM.2.1;have Ro:r<wa.heap.size:=(Array.getElem?_eq_some_iff.1 hr).1;unfold jt;have hold: ∀x∈((es.map (km kv)).toArray).toList,x.born<c:=by
  intro x hx;simp only [ey,List.mem_map] at hx;obtain⟨y,hy,rfl⟩:=hx;exact hM.2.2.2.2 y hy
 have eo:(leftOf (es.map (km kv)).toArray seen).toList=left.map (km kv):=by
  rw [Xc];simp only [leftOf,Array.toList_filter,ey,List.filter_map];rfl
 rcases run_next_at (P:=P) wa ty r b c c seen _ c hr hb hold (bK _)with⟨hz,GH⟩|⟨e,he,w1,ZT,GH⟩
 ·simp only [vS,bL,GH,bk,cH];have h0:left=[]:=by
   have:left.map (km kv)=[]:=by rw [←eo];exact fD (by simpa using hz)
   simpa using this
  exact⟨Step.fk (Ext.refl _),n0 h0 _ _ (ak.fk hX hk (Ext.refl _))⟩
 ·rw [eo] at he;obtain⟨x,hx,rfl⟩:=List.mem_map.1 he;simp only [vS,bL,GH,bk,cH];have tS:Kp X w w1:=by
   rcases ZT with rfl|rfl
   ·exact hk
   ·exact⟨hk.os,hk.tape,hk.output,hk.size,hk.block⟩
  have aeV:r<w1.heap.size:=by rcases ZT with rfl|rfl<;>exact Ro
  have zJ:w1.heap[b]? =some (.map (es.map (km kv)).toArray c):=by rcases ZT with rfl|rfl<;>exact hb
  have ahP:Fr X wa w1:=by rcases ZT with rfl|rfl<;>exact⟨rfl,rfl,rfl,bK _,fun _ _ _=>rfl⟩
  have Pc: ∀o,(setBlock w1 r o).heap[b]? =some (.map (es.map (km kv)).toArray c):=by
   intro o;rw [←zJ];simp [setBlock,eS,Zg]
  have zt:w1.heap.size=wa.heap.size:=by rcases ZT with rfl|rfl<;>rfl
  have agf:grow X wa (setBlock w1 r (.mapIter (some b) c (seen.push x.2.2) c))=grow X w1 (setBlock w1 r (.mapIter (some b) c (seen.push x.2.2) c)):=by
   unfold grow;rw [zt]
  have hG:=Hi (o:=.mapIter (some b) c (seen.push x.2.2) c) (b:=r) hX tS;have rM:wL (setBlock w1 r (.mapIter (some b) c (seen.push x.2.2) c)) (grow X w1 (setBlock w1 r (.mapIter (some b) c (seen.push x.2.2) c))) r b kv es c (left.filter fun y=>decide (y.2.2≠x.2.2)):=by
   refine⟨⟨.inl hM.1,Pc _,hM.2.2⟩,.inl hXr,Zg,seen.push x.2.2,Mk aeV,?_⟩;rw [Xc,List.filter_filter]
   congr 1
   funext y
   by_cases hy:y.2.2=x.2.2<;>simp [hy,Array.contains_push,Bool.beq_eq_decide_eq]
  show Fr X wa _∧N _ _ (grow X wa _)
  refine⟨ahP.trans (SF hXr),?_⟩
  show N (.tuple #[.bool true,kv x.1,x.2.1]) (setBlock w1 r (.mapIter (some b) c (seen.push x.2.2) c)) (grow X wa (setBlock w1 r (.mapIter (some b) c (seen.push x.2.2) c)))
  rw [agf];refine n1 x hx _ _ hG rM fun wb V3=>?_;have ahQ:=rM.kp V3;have GL:x∈es:=by rw [Xc] at hx;exact(List.mem_filter.1 hx).1
  exact run_entry_at (P:=P) wb r b c seen (es.map (km kv)).toArray c (km kv x) (by rw [V3.block r (.inl hXr)];exact Mk aeV) ahQ.1.2.1 (by rw [ey];exact List.mem_map.2 ⟨x,GL,rfl⟩)
   (by rw [ey,List.map_map];exact hM.2.2.2.1)
theorem abG {r:Nat} {k v:Value} {N:Value→World→XS→Prop} (hX: ∀k,X k→k<w.heap.size)
  (h: ∀wa,Kp X w wa→(kI (ptr r 0)).run P wa= .ok (.tuple #[k,v]) wa) (n: ∀w' X',ak X w X' w'→N (.tuple #[k,v]) w' X'):
  eV P R X w m (kI (ptr r 0)) N:=by
 intro wa hk;unfold jt;simp only [vS,bL,h wa hk,bk,cH];exact⟨Step.fk (Ext.refl _),n _ _ (ak.fk hX hk (Ext.refl _))⟩
variable {P : Program} {R : Ending → World → Prop} {X : XS} {w : World} {m : Bool} {N : Value → Prop}
def un (e:Value) (M:Value→Prop):Prop:=M e
def jn {α:Type} (r:α) (B:α→Prop):Prop:=B r
def aT (S f _fo _sz:Nat) (x:Value):Sem Value:=Instr.fieldAt S x f
def ld1 (t:TypeId) (x:Value):Sem Value:=gP t x
def ew (t:TypeId) (_n:Nat) (x:Value):Sem Value:=gP t x
def st1 (t:TypeId) (_n:Nat) (x v:Value):Sem Unit:=Instr.storeAt t x v
def dt (t:TypeId) (_k:Nat) (v i:Value):Sem Value:=Instr.indexAt t v i
def cB (t ty:TypeId) (v:Value):Sem Value:=eT #[t] ty #[v]
def lS (t ty:TypeId) (v:Value):Sem Value:=eT #[t] ty #[v]
def dV (t:TypeId) (_cells:Array Value) (parts:Array (Nat×Value)):Sem Value:=Instr.build t parts
def lT (_k:IntKind) (src dst:TypeId) (x:Value):Sem Value:=convert src dst x
def uN (src dst:TypeId) (x:Value):Sem Value:=convert src dst x
def tG (t _n _e:Nat) (x i:Value):Sem Value:=wy t x i
def gq (t _e _k len:Nat) (parts:Array (Nat×Value)):Sem Value:=kH t len parts
def fW (t _e _k _bytes ty:Nat) (v s:Value):Sem Value:=dL #[t,t] ty #[v,s]
def fdV (S f _fo _sz:Nat) (x:Value):Sem Value:=Instr.field S x f
abbrev I (x:Int):Value:=.int .i64 x
abbrev B (x:Bool):Value:=.bool x
def xt (X:XS) (w:World) (F:JT→Nat→World→XS→Prop):Prop:=Pr X w [] [] fun J n _ w X=>F J n w X
def gp (X:XS) (w:World) (v1:Value) (c1:Nat) (F:JT→Nat→Value→World→XS→Prop):Prop:=Pr X w [v1] [c1] fun J n e w X=>F J n (e c1) w X
def il (X:XS) (w:World) (v1 v2:Value) (c1 c2:Nat) (F:JT→Nat→Value→Value→World→XS→Prop):Prop:=
 Pr X w [v1,v2] [c1,c2] fun J n e w X=>F J n (e c1) (e c2) w X
def pR (X:XS) (w:World) (v1 v2 v3:Value) (c1 c2 c3:Nat) (F:JT→Nat→Value→Value→Value→World→XS→Prop):Prop:=
 Pr X w [v1,v2,v3] [c1,c2,c3] fun J n e w X=>F J n (e c1) (e c2) (e c3) w X
def uO (X:XS) (w:World) (v1 v2 v3 v4:Value) (c1 c2 c3 c4:Nat) (F:JT→Nat→Value→Value→Value→Value→World→XS→Prop):Prop:=
 Pr X w [v1,v2,v3,v4] [c1,c2,c3,c4] fun J n e w X=>F J n (e c1) (e c2) (e c3) (e c4) w X
def xu (X:XS) (w:World) (v1 v2 v3 v4 v5:Value) (c1 c2 c3 c4 c5:Nat) (F:JT→Nat→Value→Value→Value→Value→Value→World→XS→Prop):Prop:=
 Pr X w [v1,v2,v3,v4,v5] [c1,c2,c3,c4,c5] fun J n e w X=>F J n (e c1) (e c2) (e c3) (e c4) (e c5) w X
def xv (X:XS) (w:World) (v1 v2 v3 v4 v5 v6:Value) (c1 c2 c3 c4 c5 c6:Nat) (F:JT→Nat→Value→Value→Value→Value→Value→Value→World→XS→Prop):Prop:=
 Pr X w [v1,v2,v3,v4,v5,v6] [c1,c2,c3,c4,c5,c6] fun J n e w X=>F J n (e c1) (e c2) (e c3) (e c4) (e c5) (e c6) w X
def xw (X:XS) (w:World) (v1 v2 v3 v4 v5 v6 v7:Value) (c1 c2 c3 c4 c5 c6 c7:Nat) (F:JT→Nat→Value→Value→Value→Value→Value→Value→Value→World→XS→Prop):Prop:=
 Pr X w [v1,v2,v3,v4,v5,v6,v7] [c1,c2,c3,c4,c5,c6,c7] fun J n e w X=>F J n (e c1) (e c2) (e c3) (e c4) (e c5) (e c6) (e c7) w X
def xx (J:JT) (n:Nat) (w:World) (X:XS):Prop:=Pq J n [] w X
def gm (J:JT) (n:Nat) (a:Value) (w:World) (X:XS):Prop:=Pq J n [a] w X
def im (J:JT) (n:Nat) (a b:Value) (w:World) (X:XS):Prop:=Pq J n [a,b] w X
def pS (J:JT) (n:Nat) (a b c:Value) (w:World) (X:XS):Prop:=Pq J n [a,b,c] w X
def uP (J:JT) (n:Nat) (a b c d:Value) (w:World) (X:XS):Prop:=Pq J n [a,b,c,d] w X
def xy (J:JT) (n:Nat) (a b c d f:Value) (w:World) (X:XS):Prop:=Pq J n [a,b,c,d,f] w X
def xz (J:JT) (n:Nat) (a b c d f g:Value) (w:World) (X:XS):Prop:=Pq J n [a,b,c,d,f,g] w X
def xA (J:JT) (n:Nat) (a b c d f g h:Value) (w:World) (X:XS):Prop:=Pq J n [a,b,c,d,f,g,h] w X
def J1 (I:Nat→Value→World→XS→Prop):JT:=fun n vs w X=>match vs with
 |[a]=>I n a w X
 |_=>False
def J2 (I:Nat→Value→Value→World→XS→Prop):JT:=fun n vs w X=>match vs with
 |[a,b]=>I n a b w X
 |_=>False
def J3 (I:Nat→Value→Value→Value→World→XS→Prop):JT:=fun n vs w X=>match vs with
 |[a,b,c]=>I n a b c w X
 |_=>False
def J4 (I:Nat→Value→Value→Value→Value→World→XS→Prop):JT:=fun n vs w X=>match vs with
 |[a,b,c,d]=>I n a b c d w X
 |_=>False
theorem eG {v1 c1 F} (I:Nat→Value→World→XS→Prop) (n:Nat) (h0:I n v1 w X)
  (h: ∀n a w' X',I n a w' X'→F (J1 I) n a w' X'):gp X w v1 c1 F:=⟨J1 I,⟨n,h0⟩,fun n e w' X' _ hj=>h n (e c1) w' X' hj⟩
theorem gb {v1 v2 c1 c2 F} (I:Nat→Value→Value→World→XS→Prop) (n:Nat) (h0:I n v1 v2 w X)
  (h: ∀n a b w' X',I n a b w' X'→F (J2 I) n a b w' X'):il X w v1 v2 c1 c2 F:=⟨J2 I,⟨n,h0⟩,fun n e w' X' _ hj=>h n (e c1) (e c2) w' X' hj⟩
theorem A7 {v1 v2 v3 c1 c2 c3 F} (I:Nat→Value→Value→Value→World→XS→Prop) (n:Nat) (h0:I n v1 v2 v3 w X)
  (h: ∀n a b c w' X',I n a b c w' X'→F (J3 I) n a b c w' X'):pR X w v1 v2 v3 c1 c2 c3 F:=⟨J3 I,⟨n,h0⟩,fun n e w' X' _ hj=>h n (e c1) (e c2) (e c3) w' X' hj⟩
theorem aes {v1 v2 v3 v4 c1 c2 c3 c4 F} (I:Nat→Value→Value→Value→Value→World→XS→Prop) (n:Nat) (h0:I n v1 v2 v3 v4 w X)
  (h: ∀n a b c d w' X',I n a b c d w' X'→F (J4 I) n a b c d w' X'):uO X w v1 v2 v3 v4 c1 c2 c3 c4 F:=
 ⟨J4 I,⟨n,h0⟩,fun n e w' X' _ hj=>h n (e c1) (e c2) (e c3) (e c4) w' X' hj⟩
theorem ep {I n a} (k:Nat) (hk:k<n) (h:I k a w X):gm (J1 I) n a w X:=⟨k,hk,h⟩
theorem eM {I n a b} (k:Nat) (hk:k<n) (h:I k a b w X):im (J2 I) n a b w X:=⟨k,hk,h⟩
theorem yU {I n a b c} (k:Nat) (hk:k<n) (h:I k a b c w X):pS (J3 I) n a b c w X:=⟨k,hk,h⟩
theorem aev {I n a b c d} (k:Nat) (hk:k<n) (h:I k a b c d w X):uP (J4 I) n a b c d w X:=⟨k,hk,h⟩
theorem dG {α:Type} {r:α} {F:α→Prop} (h:F r):jn r F:=h
theorem iu {α:Type} {r:α} {F:α→Prop} (Q:α→Prop) (h:Q r) (k: ∀c,Q c→F c):jn r F:=k r h
theorem adA {l:List Value} {i:Nat} {a:Value} {M:Value→Prop} (h:l[i]? =some a) (k:M a):un (cellOf (.agg l.toArray) i) M:=by
 have:cellOf (.agg l.toArray) i=a:=by simp [cellOf,aa,ui,h]
 unfold un;rw [this];exact k
theorem ZU {l:List Value} {o n:Nat} {M:Value→Prop} (k:M (.agg ((l.drop o).take n).toArray)):un (b7 (.agg l.toArray) o n) M:=by
 have:b7 (.agg l.toArray) o n= .agg ((l.drop o).take n).toArray:=by simp [b7,aa]
 unfold un;rw [this];exact k
theorem ZV {c:Array Value} {M:Value→Prop} (k:M (.agg c)):un (.agg (aa (.agg c))) M:=k
theorem adB {v:Value} {M:Value→Prop} (k:M v):un (aP (.bool true) true v) M:=k
theorem adC {v:Value} {M:Value→Prop} (k:M v):un (aP (.bool false) false v) M:=k
theorem abH {v:Value} {M:Value→Prop} (k:M undef):un (aP (.bool true) false v) M:=k
theorem abI {v:Value} {M:Value→Prop} (k:M undef):un (aP (.bool false) true v) M:=k
theorem adD {v:Value} {q:Bool} {M:Value→Prop} (k:M undef):un (aP undef q v) M:=by
 have:aP undef q v=undef:=by cases q<;>rfl
 unfold un;rw [this];exact k
theorem Xd {b:Bool} {A:Prop} (h:b=true) (k:A):aF b A:=by subst h;exact k
theorem adE {A C:Prop} (h:A):au (.bool true) A C:=⟨fun _=>h,fun h=>absurd h (by simp)⟩
theorem adF {A C:Prop} (h:C):au (.bool false) A C:=⟨fun h=>absurd h (by simp),fun _=>h⟩
theorem aeW {s:Sem Next} {want:Bool} (h:N undef):aJ P X w undef want s N:=by
 have e:ky undef want=false:=by cases want<;>rfl
 unfold aJ;exact⟨undef,fun hf=>absurd (e.symm.trans hf) (by simp),fun _=>rfl,h⟩
theorem ahR {want:Bool} {A C:Prop} (h:C):gE undef want A C:=by
 have e:ky undef want=false:=by cases want<;>rfl
 unfold gE;rw [e];exact⟨fun hf=>absurd hf (by simp),fun _=>h⟩
theorem abJ {s:Sem Value} (h:ad P X w s N):aJ P X w (.bool true) true (vS s) N:=Iv h
theorem abK {s:Sem Value} (h:ad P X w s N):aJ P X w (.bool false) false (vS s) N:=Iv h
section
variable {t : TypeId} {k : IntKind} {a b : Int} {xo yo : Operand}
theorem Xe (hT:a<b→N (.bool true)) (hF: ¬a<b→N (.bool false)):ad P X w (binOp .lss t (.int k a) (.int k b)) N:=
 adm (by by_cases h:a<b;(· rw [decide_eq_true h];exact hT h);(· rw [decide_eq_false h];exact hF h))
theorem Xg (hT:a≤b→N (.bool true)) (hF: ¬a≤b→N (.bool false)):ad P X w (binOp .leq t (.int k a) (.int k b)) N:=
 adn (by by_cases h:a≤b;(· rw [decide_eq_true h];exact hT h);(· rw [decide_eq_false h];exact hF h))
theorem Xh (hT:a>b→N (.bool true)) (hF: ¬a>b→N (.bool false)):ad P X w (binOp .gtr t (.int k a) (.int k b)) N:=
 ado (by by_cases h:a>b;(· rw [decide_eq_true h];exact hT h);(· rw [decide_eq_false h];exact hF h))
theorem Xi (hT:a≥b→N (.bool true)) (hF: ¬a≥b→N (.bool false)):ad P X w (binOp .geq t (.int k a) (.int k b)) N:=
 adp (by by_cases h:a≥b;(· rw [decide_eq_true h];exact hT h);(· rw [decide_eq_false h];exact hF h))
theorem Xj (hT:a=b→N (.bool true)) (hF: ¬a=b→N (.bool false)):ad P X w (aH .eql t xo yo (.int k a) (.int k b)) N:=
 ads (by by_cases h:a=b;(· rw [decide_eq_true h];exact hT h);(· rw [decide_eq_false h];exact hF h))
theorem Xk (hT: ¬a=b→N (.bool true)) (hF:a=b→N (.bool false)):ad P X w (aH .neq t xo yo (.int k a) (.int k b)) N:=
 adt (by by_cases h:a=b;(· rw [decide_eq_false (fun hn=>hn h)];exact hF h);(· rw [decide_eq_true h];exact hT h))
theorem aeX (h:a<b) (k':N (.bool true)):ad P X w (binOp .lss t (.int k a) (.int k b)) N:=Xe (fun _=>k') (fun hn=>absurd h hn)
theorem aeY (h: ¬a<b) (k':N (.bool false)):ad P X w (binOp .lss t (.int k a) (.int k b)) N:=Xe (fun hn=>absurd hn h) (fun _=>k')
theorem aeZ (h:a≤b) (k':N (.bool true)):ad P X w (binOp .leq t (.int k a) (.int k b)) N:=Xg (fun _=>k') (fun hn=>absurd h hn)
theorem ae0 (h: ¬a≤b) (k':N (.bool false)):ad P X w (binOp .leq t (.int k a) (.int k b)) N:=Xg (fun hn=>absurd hn h) (fun _=>k')
theorem ae1 (h:a>b) (k':N (.bool true)):ad P X w (binOp .gtr t (.int k a) (.int k b)) N:=Xh (fun _=>k') (fun hn=>absurd h hn)
theorem ae2 (h: ¬a>b) (k':N (.bool false)):ad P X w (binOp .gtr t (.int k a) (.int k b)) N:=Xh (fun hn=>absurd hn h) (fun _=>k')
theorem ae3 (h:a≥b) (k':N (.bool true)):ad P X w (binOp .geq t (.int k a) (.int k b)) N:=Xi (fun _=>k') (fun hn=>absurd h hn)
theorem ae4 (h: ¬a≥b) (k':N (.bool false)):ad P X w (binOp .geq t (.int k a) (.int k b)) N:=Xi (fun hn=>absurd hn h) (fun _=>k')
theorem ae5 (h:a=b) (k':N (.bool true)):ad P X w (aH .eql t xo yo (.int k a) (.int k b)) N:=Xj (fun _=>k') (fun hn=>absurd h hn)
theorem ae6 (h: ¬a=b) (k':N (.bool false)):ad P X w (aH .eql t xo yo (.int k a) (.int k b)) N:=Xj (fun hn=>absurd hn h) (fun _=>k')
theorem ae7 (h: ¬a=b) (k':N (.bool true)):ad P X w (aH .neq t xo yo (.int k a) (.int k b)) N:=Xk (fun _=>k') (fun hn=>absurd hn h)
theorem ae8 (h:a=b) (k':N (.bool false)):ad P X w (aH .neq t xo yo (.int k a) (.int k b)) N:=Xk (fun hn=>absurd h hn) (fun _=>k')
theorem acr (h1: -(2^63)≤a+b) (h2:a+b<2^63) (h:N (.int .i64 (a+b))):ad P X w (binOp .add t (.int .i64 a) (.int .i64 b)) N:=
 mn (by rw [wrap_i64 h1 h2];exact h)
theorem acs (h1: -(2^63)≤a-b) (h2:a-b<2^63) (h:N (.int .i64 (a-b))):ad P X w (binOp .sub t (.int .i64 a) (.int .i64 b)) N:=
 adq (by rw [wrap_i64 h1 h2];exact h)
end
theorem Ed {a b:ByteArray} :a.toList=b.toList↔a=b:=by
 constructor
 ·intro h;rw [gK,gK] at h;obtain⟨⟨x⟩⟩:=a;obtain⟨⟨y⟩⟩:=b;simpa using h
 ·intro h;rw [h]
def ou (a b:ByteArray):Bool:=cG a.toList b.toList
section
variable {t : TypeId} {a b : ByteArray} {xo yo : Operand}
theorem ae9 (hT:a=b→N (.bool true)) (hF: ¬a=b→N (.bool false)):ad P X w (aH .eql t xo yo (.string a) (.string b)) N:=
 abm (by simp only [Ed];by_cases h:a=b;(· rw [decide_eq_true h];exact hT h);(· rw [decide_eq_false h];exact hF h))
theorem afa (hT: ¬a=b→N (.bool true)) (hF:a=b→N (.bool false)):ad P X w (aH .neq t xo yo (.string a) (.string b)) N:=
 abn (by simp only [ne_eq,Ed];by_cases h:a=b;(· rw [decide_eq_false (fun hn=>hn h)];exact hF h);(· rw [decide_eq_true h];exact hT h))
theorem afb (hT:ou a b=false→N (.bool true)) (hF:ou a b=true→N (.bool false)):ad P X w (binOp .geq t (.string a) (.string b)) N:=
 abo (by unfold ou at hT hF;cases h:cG a.toList b.toList;(· exact hT h);(· exact hF h))
theorem afc (hT:ou a b=true∨a=b→N (.bool true)) (hF:ou a b=false→ ¬a=b→N (.bool false)):ad P X w (binOp .leq t (.string a) (.string b)) N:=
 abp (by
  unfold ou at hT hF;simp only [Ed];cases h:cG a.toList b.toList
  ·by_cases h2:a=b
   ·simp only [h2,decide_true,Bool.or_true];exact hT (.inr h2)
   ·simp only [h2,decide_false,Bool.or_false];exact hF h h2
  ·simp only [Bool.true_or];exact hT (.inl h))
end
def B4 (a b:Nat):Bool:=FloatKind.f64.format.order a b==some .lt
def zN (a b:Nat):Bool:=FloatKind.f64.format.order a b==some .eq
def Fx (a b:Nat):Bool:=FloatKind.f64.format.order a b==some .gt
section
variable {t : TypeId} {a b : Nat} {xo yo : Operand}
theorem afd (hT:B4 a b=true→N (.bool true)) (hF:B4 a b=false→N (.bool false)):ad P X w (binOp .lss t (.float .f64 a) (.float .f64 b)) N:=
 abq (by unfold B4 at hT hF;cases h:(FloatKind.f64.format.order a b==some .lt);(· exact hF h);(· exact hT h))
theorem afe (hT:Fx a b=true→N (.bool true)) (hF:Fx a b=false→N (.bool false)):ad P X w (binOp .gtr t (.float .f64 a) (.float .f64 b)) N:=
 abt (by unfold Fx at hT hF;cases h:(FloatKind.f64.format.order a b==some .gt);(· exact hF h);(· exact hT h))
theorem aff (hT:B4 a b=true∨zN a b=true→N (.bool true)) (hF:B4 a b=false→zN a b=false→N (.bool false)):ad P X w (binOp .leq t (.float .f64 a) (.float .f64 b)) N:=
 abr (by
  unfold B4 zN at hT hF;cases h:(FloatKind.f64.format.order a b==some .lt)
  ·cases h2:(FloatKind.f64.format.order a b==some .eq)
   ·exact hF h h2
   ·exact hT (.inr h2)
  ·exact hT (.inl h))
theorem afg (hT:Fx a b=true∨zN a b=true→N (.bool true)) (hF:Fx a b=false→zN a b=false→N (.bool false)):ad P X w (binOp .geq t (.float .f64 a) (.float .f64 b)) N:=
 abu (by
  unfold Fx zN at hT hF;cases h:(FloatKind.f64.format.order a b==some .gt)
  ·cases h2:(FloatKind.f64.format.order a b==some .eq)
   ·exact hF h h2
   ·exact hT (.inr h2)
  ·exact hT (.inl h))
theorem afh (hT:zN a b=false→N (.bool true)) (hF:zN a b=true→N (.bool false)):ad P X w (aH .neq t xo yo (.float .f64 a) (.float .f64 b)) N:=
 abv (by
  unfold zN at hT hF
  show N (.bool (!(FloatKind.f64.format.order a b==some .eq)))
  cases h:(FloatKind.f64.format.order a b==some .eq)
  ·exact hT h
  ·exact hF h)
end
theorem afi (h:N (.bool false)):ad P X w (aX .not (.bool true)) N:=VW h
theorem afj (h:N (.bool true)):ad P X w (aX .not (.bool false)) N:=VW h
section
variable {t : TypeId} {xo yo : Operand} {a b c a' b' c' : Int}
theorem ZW (h:gx P t 3=true) (hT:a=a'→b=b'→c=c'→N (.bool true)) (hF: ¬(a=a'∧b=b'∧c=c')→N (.bool false)):
  ad P X w (aH .eql t xo yo (.agg #[.int .i64 a,.int .i64 b,.int .i64 c]) (.agg #[.int .i64 a',.int .i64 b',.int .i64 c'])) N:=
 abB h (by by_cases hc:a=a'∧b=b'∧c=c';(· rw [decide_eq_true hc];exact hT hc.1 hc.2.1 hc.2.2);(· rw [decide_eq_false hc];exact hF hc))
theorem Ri (h:gx P t 3=true) (hT: ¬(a=a'∧b=b'∧c=c')→N (.bool true)) (hF:a=a'→b=b'→c=c'→N (.bool false)):
  ad P X w (aH .neq t xo yo (.agg #[.int .i64 a,.int .i64 b,.int .i64 c]) (.agg #[.int .i64 a',.int .i64 b',.int .i64 c'])) N:=
 abC h (by by_cases hc:a=a'∧b=b'∧c=c';(· rw [decide_eq_true hc];exact hF hc.1 hc.2.1 hc.2.2);(· rw [decide_eq_false hc];exact hT hc))
end
theorem agh {t:TypeId} {b o:Nat} {v:Value} {l:List Value} (h:Cells w X b o l) (hi:iZ P t=some (false,1)) (hl:l[0]? =some v) (k:N v):
  ad P X w (ld1 t (ptr b o)) N:=by
 cases l with
 |nil=>cases hl
 |cons x r=>
  simp only [iz,ax] at hl;subst hl;exact ZN h hi k
theorem yP {α:Type} {enc:α→List Value} {t ty:TypeId} {k:Nat} {v:Value} {xs:List α} (h:Sl w X k v (xs.map enc))
  (ht:P.underlying t=some (.slice (P.elem t))) (n:N (.int .i64 xs.length)):ad P X w (cB t ty v) N:=abz h ht n
theorem agi {t ty:TypeId} {s:ByteArray} (ht:P.underlying t=some .string) (k:N (.int .i64 s.size)):ad P X w (lS t ty (.string s)) N:=aby ht k
theorem Xl {t:TypeId} {parts:Array (Nat×Value)} {cells:Array Value} (h:P.built t parts.toList=some cells) (k:N (.agg cells)):
  ad P X w (dV t cells parts) N:=ZP cells h k
theorem QB {a:Addr} (h:N (.pointer (some a))):az P X w (aM (.pointer (some a))) N:=adx h
theorem dR {f:FuncId} {args:Array Value} {b:Bool} {N:Value→World→XS→Prop}
  (h:Pure P f args (.bool b)) (hf:enters P f=true) (hX: ∀k,X k→k<w.heap.size)
  (hT:b=true→ ∀w' X',ak X w X' w'→N (.bool true) w' X') (hF:b=false→ ∀w' X',ak X w X' w'→N (.bool false) w' X'):
  eC P R X w m f args N:=VX hf hX h (by
  cases b
  ·exact hF rfl
  ·exact hT rfl)
theorem fX {f:FuncId} {args:Array Value} {v:Value} {N:Value→World→XS→Prop}
  (h:Pure P f args v) (hf:enters P f=true) (hX: ∀k,X k→k<w.heap.size)
  (k: ∀w' X',ak X w X' w'→N v w' X'):eC P R X w m f args N:=VX hf hX h k
structure ef (F X:XS) (w:World) (X':XS) (w':World):Prop where
 os:w'.os=w.os
 tape:w'.tape=w.tape
 output:w'.output=w.output
 size:w.heap.size≤w'.heap.size
 block: ∀k,X k→ ¬F k→w'.heap[k]? =w.heap[k]?
 sub: ∀k,X k→X' k
 has: ∀k,X' k→k<w'.heap.size
theorem ef.since {F Y X':XS} {w':World} (c:ef F X w X' w') (hY: ∀k,Y k→X k∧ ¬F k):ak Y w X' w':=
 ⟨⟨c.os,c.tape,c.output,c.size,fun k hk=>c.block k (hY k hk).1 (hY k hk).2⟩,fun k hk=>c.sub k (hY k hk).1,c.has⟩
theorem ak.dF {F X0 X':XS} {w0 w':World} (h:ak X0 w0 X w) (c:ef F X w X' w') (hd: ∀k,X0 k→ ¬F k):ak X0 w0 X' w':=
 ⟨⟨c.os.trans h.kp.os,c.tape.trans h.kp.tape,c.output.trans h.kp.output,af h.kp.size c.size,
  fun k hk=>(c.block k (h.sub k hk) (hd k hk)).trans (h.kp.block k hk)⟩,fun k hk=>c.sub k (h.sub k hk),c.has⟩
theorem ef.Qv {F:XS} {wa w':World} (hX: ∀k,X k→k<w.heap.size) (hk:Kp X w wa) (hf:Fr F wa w'):ef F X w (grow X wa w') w':=
 ⟨hf.os.trans hk.os,hf.tape.trans hk.tape,hf.output.trans hk.output,af hk.size hf.size,
  fun k hx hn=>(hf.block k (aI (hX k hx) hk.size) hn).trans (hk.block k hx),fun _ h=>.inl h,
  fun k h=>h.elim (fun h=>aI (hX k h) (af hk.size hf.size)) (fun h=>h.2)⟩
theorem ef.qk {X':XS} {w':World} (h:ak X w X' w') (F:XS):ef F X w X' w':=
 ⟨h.kp.os,h.kp.tape,h.kp.output,h.kp.size,fun k hk _=>h.kp.block k hk,h.sub,h.has⟩
theorem Grown.dF {X':XS} {w':World} {row:Option Nat} (g:Grown X w X' w' row):ef (fun k=>some k=row) X w X' w':=
 ⟨g.os,g.tape,g.output,g.size,fun k hk hn=>g.block k hk hn,g.sub,g.has⟩
theorem ef.trans {F X' rl:XS} {w' mN:World} (a:ef F X w X' w') (b:ef F X' w' rl mN):ef F X w rl mN:=
 ⟨b.os.trans a.os,b.tape.trans a.tape,b.output.trans a.output,af a.size b.size,
  fun k hk hn=>(b.block k (a.sub k hk) hn).trans (a.block k hk hn),fun k hk=>b.sub k (a.sub k hk),b.has⟩
theorem ef.mono {F G X':XS} {w':World} (a:ef F X w X' w') (h: ∀k,X k→F k→G k):ef G X w X' w':=
 ⟨a.os,a.tape,a.output,a.size,fun k hk hn=>a.block k hk fun hf=>hn (h k hk hf),a.sub,a.has⟩
def made (w w':World):XS:=fun g=>w.heap.size≤g∧g<w'.heap.size
def out (F:XS) (w:World):XS:=fun k=>k<w.heap.size∧ ¬F k
def AP (F:XS) (w0:World) (Q:Value→World→Prop):Ending→World→Prop:=fun e w'=> ∃v,e= .returned v∧Fr F w0 w'∧Q v w'
def Ct (P:Program) (f:FuncId) (args:Array Value) (w:World) (X F:XS) (Q:Value→World→World→Prop):Prop:=
 ∀wa,Kp X w wa→Calls P f args wa (AP F wa fun v w'=>Q v wa w')
theorem Ct.mono {f:FuncId} {args:Array Value} {F:XS} {Q Q':Value→World→World→Prop} (h:Ct P f args w X F Q) (k: ∀v wa w',Kp X w wa→Q v wa w'→Q' v wa w'):Ct P f args w X F Q':=
 fun wa hk=>(h wa hk).mono fun _ _ ⟨v,he,hf,hq⟩=>⟨v,he,hf,k v wa _ hk hq⟩
theorem ek {f:FuncId} {args:Array Value} {N:Value→World→XS→Prop} {Q:Value→World→World→Prop}
  (h:Ct P f args w X nX Q) (hf:enters P f=true) (hX: ∀k,X k→k<w.heap.size)
  (k: ∀v wa w' X',Q v wa w'→w.heap.size≤wa.heap.size→(∀k,made wa w' k→X' k)→ak X w X' w'→N v w' X'):eC P R X w m f args N:=
 SC (Q:=Q) hf hX h fun v wa w' X' hk _ hn hq hs=>k v wa w' X' hq hk.size (fun g hg=>hn g hg.1 hg.2) hs
theorem Nc {f:FuncId} {args:Array Value} {N:Value→World→XS→Prop} {F:XS} {Q:Value→World→World→Prop}
  (h:Ct P f args w X F Q) (hf:enters P f=true) (hX: ∀k,X k→k<w.heap.size) (hF: ∀k,F k→X k)
  (k: ∀v wa w' X',Q v wa w'→w.heap.size≤wa.heap.size→(∀k,made wa w' k→X' k)→Kp X w wa→ef F X w X' w'→N v w' X'):eC P R X w true f args N:=by
 intro wa hk;unfold jt;rw [sF hf args wa];refine⟨rfl,(h wa hk).mono ?_⟩;rintro e w' ⟨v,rfl,ry,hq⟩;exact⟨ry.mono hF,k v wa w' _ hq hk.size (fun g hg=>.inr hg) hk (ef.Qv hX hk ry)⟩
theorem ai {w0:World} {v:Value} {Q:Value→World→Prop} (hs:ak (aS w0) w0 X w) (h: ∀wa,Kp X w wa→Q v wa):fin (AP nX w0 Q) X w v:=
 fun _ hk=>⟨v,rfl,hs.ext hk,h _ hk⟩
theorem mX {w0:World} {v:Value} {F:XS} {Q:Value→World→Prop} (hs:ak (out F w0) w0 X w) (h: ∀wa,Kp X w wa→Q v wa):fin (AP F w0 Q) X w v:=
 fun _ hk=>⟨v,rfl,⟨hk.os.trans hs.kp.os,hk.tape.trans hs.kp.tape,hk.output.trans hs.kp.output,af hs.kp.size hk.size,
  fun k hl hn=>(hk.block k (hs.sub k ⟨hl,hn⟩)).trans (hs.kp.block k ⟨hl,hn⟩)⟩,h _ hk⟩
theorem ak.out (F:XS) (w:World):ak (out F w) w (aS w) w:=⟨Kp.refl _ _,fun _ h=>h.1,fun _ h=>h⟩
theorem Own.up {w' wa:World} {X':XS} {lo e k:Nat} {v:Value} {rows:List (List Value)} (h:Own w' (made wa w') wa.heap.size e k v rows) (eD: ∀k,made wa w' k→X' k) (hl:lo≤wa.heap.size):
  Own w' X' lo e k v rows:=(h.mono eD).low hl
theorem Own.dF {F X':XS} {w':World} {lo e k:Nat} {v:Value} {rows:List (List Value)} (h:Own w X lo e k v rows) (c:ef F X w X' w') (hd: ∀g,v.ownBlock=some g→ ¬F g):Own w' X' lo e k v rows:=by
 obtain⟨h1,h2,h3⟩:=h;refine⟨h1,⟨h2.1,?_⟩,fun g hg=>c.sub g (h3 g hg)⟩;rcases h2.2 with h|⟨g,cap,cur,rfl,hb,hg,hr⟩
 ·exact .inl h
 ·exact .inr ⟨g,cap,cur,rfl,hb,by rw [c.block g (h3 g rfl) (hd g rfl)];exact hg,hr⟩
theorem Sl.sub {k:Nat} {v:Value} {rows:List (List Value)} {Y:XS} (h:Sl w X k v rows) (hs: ∀k,X k→k<w.heap.size→Y k):Sl w Y k v rows:=by
 obtain⟨h1,h2,base,cap,hv,hc,hr⟩:=h;exact⟨h1,h2,base,cap,hv,fun bW=>let⟨b,o,hb,lR⟩:=hc bW;⟨b,o,hb,hs _ lR.1 lR.lt,lR.2⟩,hr⟩
theorem Sl.len {k:Nat} {v:Value} {rows:List (List Value)} (h:Sl w X k v rows):rows.length≤2^63-1:=h.2.1
theorem Sl.gz {α:Type} {enc:α→List Value} {k:Nat} {v:Value} {xs:List α} (h:Sl w X k v (xs.map enc)):xs.length≤2^63-1:=by have:=h.2.1;simpa using this
theorem Cells.sub {b o:Nat} {l:List Value} {Y:XS} (h:Cells w X b o l) (hs: ∀k,X k→k<w.heap.size→Y k):Cells w Y b o l:=⟨hs _ h.1 h.lt,h.2⟩
theorem Cells.aS {b o:Nat} {l:List Value} (h:Cells w X b o l):Cells w (aS w) b o l:=⟨h.lt,h.2⟩
variable {P : Program} {R : Ending → World → Prop} {X Y Z : XS} {w w' mN : World} {m : Bool} {N : Value → Prop} {α : Type}
def Mv (X:XS) (w:World) (Y:XS) (w':World):Prop:= ∀k,X k→k<w.heap.size→Y k∧w'.heap[k]? =w.heap[k]?
theorem Mv.trans (a:Mv X w Y w') (b:Mv Y w' Z mN):Mv X w Z mN:=fun k hk hl=>by
 obtain⟨h1,h2⟩:=a k hk hl;have jC:k<w'.heap.size:=by
  have:w'.heap[k]? =some w.heap[k]:=by rw [h2];exact Array.getElem?_eq_getElem hl
  exact(Array.getElem?_eq_some_iff.1 this).1
 obtain⟨h3,h4⟩:=b k h1 jC;exact⟨h3,h4.trans h2⟩
theorem ak.mv (h:ak X w Y w'):Mv X w Y w':=fun k hk _=>⟨h.sub k hk,h.kp.block k hk⟩
theorem _root_.Go.bu.Kp.mv (h:Kp X w w'):Mv X w X w':=fun k hk _=>⟨hk,h.block k hk⟩
theorem Mv.aS:Mv X w (aS w) w:=fun _ _ hl=>⟨hl,rfl⟩
theorem _root_.Go.bu.Kp.cL (h:Kp X w w'):Mv X w (aS w') w':=h.mv.trans Mv.aS
theorem Mv.out {F:XS} (h: ∀k,X k→ ¬F k):Mv X w (bu.out F w) w:=fun k hk hl=>⟨⟨hl,h k hk⟩,rfl⟩
theorem Mv.sub (h: ∀k,X k→Y k):Mv X w Y w:=fun k hk _=>⟨h k hk,rfl⟩
theorem Ext.mv (h:Ext w w'):Mv (bu.aS w) w (bu.aS w') w':=fun _ _ hl=>⟨aI hl h.size,h.block hl⟩
theorem ef.mv {F A:XS} (c:ef F X w Y w') (h: ∀k,A k→X k∧ ¬F k):Mv A w Y w':=fun k hk _=>⟨c.sub k (h k hk).1,c.block k (h k hk).1 (h k hk).2⟩
theorem Cells.mv {b o:Nat} {l:List Value} (h:Cells w X b o l) (v:Mv X w Y w'):Cells w' Y b o l:=by
 have hl:=h.lt;obtain⟨hx,cs,t,fr,hb,hc⟩:=h;obtain⟨h1,h2⟩:=v b hx hl;exact⟨h1,cs,t,fr,by rw [h2];exact hb,hc⟩
theorem Sl.mv {k:Nat} {v:Value} {rows:List (List Value)} (h:Sl w X k v rows) (m:Mv X w Y w'):Sl w' Y k v rows:=by
 obtain⟨h1,h2,base,cap,hv,hc,hr⟩:=h;exact⟨h1,h2,base,cap,hv,fun bW=>let⟨b,o,hb,lR⟩:=hc bW;⟨b,o,hb,lR.mv m⟩,hr⟩
theorem Sl.form {k:Nat} {v:Value} {rows:List (List Value)} (h:Sl w X k v rows): ∃b n c,v= .slice b n c:=let⟨_,_,b,c,hv,_⟩:=h;⟨b,_,c,hv⟩
theorem bI.mv {b:Nat} {cs:List Value} {ty:TypeId} (h:bI w X b cs ty) (m:Mv X w Y w'):bI w' Y b cs ty:=by
 obtain⟨h1,h2⟩:=m b h.1 (Array.getElem?_eq_some_iff.1 h.2).1;exact⟨h1,by rw [h2];exact h.2⟩
theorem jR.mv {κ:Type} {b:Nat} {kv:κ→Value} {es:List (iq κ)} {c:Nat} (h:jR w X b kv es c) (m:Mv X w Y w'):jR w' Y b kv es c:=by
 obtain⟨h1,h2⟩:=m b h.1 (Array.getElem?_eq_some_iff.1 h.2.1).1;exact⟨h1,by rw [h2];exact h.2.1,h.2.2⟩
theorem Own.mv {lo e k:Nat} {v:Value} {rows:List (List Value)} (h:Own w X lo e k v rows) (m:Mv X w Y w'):Own w' Y lo e k v rows:=by
 obtain⟨h1,h2,h3⟩:=h;refine⟨h1,⟨h2.1,?_⟩,fun g hg=>(m g (h3 g hg) (h2.lt g hg).2).1⟩;rcases h2.2 with h|⟨g,cap,cur,rfl,hb,hg,hr⟩
 ·exact .inl h
 ·exact .inr ⟨g,cap,cur,rfl,hb,by rw [(m g (h3 g rfl) (Array.getElem?_eq_some_iff.1 hg).1).2];exact hg,hr⟩
def gO (w:World) (X:XS) (k:Nat) (v:Value) (rd:World→XS→List Value→α→Prop) (xs:List α):Prop:=
 ∃rows,Sl w X k v rows∧rows.length=xs.length∧ ∀(i:Nat) l x,rows[i]? =some l→xs[i]? =some x→rd w X l x
def Ez (rd:World→XS→List Value→α→Prop):Prop:= ∀{X Y:XS} {w w':World} {l:List Value} {x:α},rd w X l x→Mv X w Y w'→rd w' Y l x
theorem gO.mv {k:Nat} {v:Value} {rd:World→XS→List Value→α→Prop} {xs:List α} (h:gO w X k v rd xs) (hm:Ez rd) (m:Mv X w Y w'):gO w' Y k v rd xs:=by
 obtain⟨rows,h1,h2,h3⟩:=h;exact⟨rows,h1.mv m,h2,fun i l x hl hx=>hm (h3 i l x hl hx) m⟩
theorem gO.nil {rd:World→XS→List Value→α→Prop} (w:World) (X:XS) (k:Nat):gO w X k (.slice none 0 0) rd []:=⟨[],Sl.nil w X k,rfl,by simp⟩
theorem gO.one {k:Nat} {v:Value} {rd:World→XS→List Value→α→Prop} {xs:List α} (h:gO w X k v rd xs):one v=true:=let⟨_,h1,_⟩:=h;h1.one
theorem gO.len {k:Nat} {v:Value} {rd:World→XS→List Value→α→Prop} {xs:List α} (h:gO w X k v rd xs):xs.length≤2^63-1:=by
 obtain⟨_,h1,h2,_⟩:=h;rw [←h2];exact h1.2.1
theorem Mv.refl (X:XS) (w:World):Mv X w X w:=fun _ hk _=>⟨hk,rfl⟩
theorem mv0:Mv X w X w:=Mv.refl _ _
theorem mv1 (h:ak X w Y w'):Mv X w Y w':=h.mv
theorem nq1 {l:List Value} :l.toArray.toList=l:=rfl
theorem nq2 {i:Nat} {a:Value} {l:List Value} :(a::l).take (i+1)=a::l.take i:=rfl
theorem nq3 {i:Nat} {a:Value} {l:List Value} :(a::l).drop (i+1)=l.drop i:=rfl
theorem nq4 {l:List Value} :l.take 0=[]:=rfl
theorem nq5 {l:List Value} :l.drop 0=l:=rfl
theorem nq6 {i:Nat} :([]:List Value).take i=[]:=List.take_nil
theorem nq7 {a:Value} {l:List Value} :(a::l).length=l.length+1:=rfl
theorem nq8:([]:List Value).length=0:=rfl
theorem nq9 {a:Value} {l m:List Value} :a::l++m=a::(l++m):=rfl
theorem nq0 {l:List Value} :[]++l=l:=rfl
theorem mv2 (h:ak X w Y w') (h':ak Y w' Z mN):Mv X w Z mN:=(h.trans h').mv
theorem Cells.acu {b o fo:Nat} {v:Value} {l:List Value} (h:Cells w X b o l) (hl:l[fo]? =some v):Cells w X b (o+fo) [v]:=by
 have hp:=h.part fo 1;have:(l.drop fo).take 1=[v]:=by
  obtain⟨cK,rfl⟩:=List.getElem?_eq_some_iff.1 hl;rw [fz cK,List.take_succ_cons,List.take_zero]
 rw [this] at hp;exact hp
section
variable {w0 : World} {X0 : XS}
theorem agj {S f fo sz b o:Nat} {l l':List Value} (h:Cells w0 X0 b o l) (hf:fieldInfo P S f=some (fo,sz)) (hz:(sz !=0)=true) (hl:(l.drop fo).take sz=l')
  (k: ∀o',o'=o+fo→Cells w0 X0 b o' l'→N (ptr b o')):ad P X w (aT S f fo sz (ptr b o)) N:=
 J9 hf (by simpa using hz) (k _ rfl (hl▸h.part fo sz))
theorem Ml {S f fo b o:Nat} {v:Value} {l:List Value} (h:Cells w0 X0 b o l) (hf:fieldInfo P S f=some (fo,1)) (hl:l[fo]? =some v)
  (k: ∀o',o'=o+fo→Cells w0 X0 b o' [v]→N (ptr b o')):ad P X w (aT S f fo 1 (ptr b o)) N:=
 J9 hf zQ (k _ rfl (h.acu hl))
theorem agk {t:TypeId} {b o:Nat} {v:Value} {l:List Value} (h:Cells w0 X0 b o l) (m:Mv X0 w0 X w) (hi:iZ P t=some (false,1)) (hl:l[0]? =some v) (k:N v):
  ad P X w (ld1 t (ptr b o)) N:=agh (h.mv m) hi hl k
theorem acv {t:TypeId} {b o n:Nat} {l:List Value} (h:Cells w0 X0 b o l) (m:Mv X0 w0 X w) (hi:iZ P t=some (true,n)) (hn:l.length=n) (k:N (.agg l.toArray)):
  ad P X w (ew t n (ptr b o)) N:=ZO (h.mv m) hi hn k
theorem agl {enc:α→List Value} {t ty:TypeId} {k:Nat} {v:Value} {xs:List α} (h:Sl w0 X0 k v (xs.map enc))
  (ht:P.underlying t=some (.slice (P.elem t))) (n:N (.int .i64 xs.length)):ad P X w (cB t ty v) N:=by
 obtain⟨_,_,base,cap,rfl,_⟩:=h;exact cx (fun wa=>run_len_slice wa t ty base _ cap ht) (by rw [List.length_map];exact n)
theorem agm {t ty:TypeId} {k:Nat} {v:Value} {rd:World→XS→List Value→α→Prop} {xs:List α} (h:gO w0 X0 k v rd xs)
  (ht:P.underlying t=some (.slice (P.elem t))) (n:N (.int .i64 xs.length)):ad P X w (cB t ty v) N:=by
 obtain⟨rows,⟨_,_,base,cap,rfl,_⟩,h2,_⟩:=h;exact cx (fun wa=>run_len_slice wa t ty base _ cap ht) (by rw [h2];exact n)
theorem Mm {t:TypeId} {k:Nat} {v:Value} {rows:List (List Value)} {i:Nat} {z:Int} {r:List Value} (h:Sl w0 X0 k v rows) (hr:rows[i]? =some r) (hz:z=i)
  (ht:P.underlying t=some (.slice (P.elem t))) (hs:(P.info? (P.elem t)).map (·.size)=some k)
  (n: ∀b o,Cells w0 X0 b o r→N (ptr b o)):ad P X w (Instr.indexAt t v (.int .i64 z)) N:=by
 obtain⟨h1,_,base,cap,rfl,hc,_⟩:=h;have hi:i<rows.length:=(List.getElem?_eq_some_iff.1 hr).1;obtain⟨b,o,rfl,lR⟩:=hc (by intro e;subst e;simp at hi);have hp:=lR.part (i*k) k;rw [Hg h1 hr] at hp;refine cx (fun wa=>?_) (n b (o+i*k) hp);subst hz;rw [run_indexAt_slice (h:=ht),if_pos zQ];cases hq:P.info? (P.elem t)with
 |none=>simp [hq] at hs
 |some inf=>
  have:inf.size=k:=by simpa [hq] using hs
  simp [sizeOf,typeInfo,hq,this,uv]
theorem agn {enc:α→List Value} {t:TypeId} {k:Nat} {v:Value} {xs:List α} {i:Nat} {z:Int} {x:α} (h:Sl w0 X0 k v (xs.map enc)) (hr:xs[i]? =some x)
  (hz:z=i) (ht:P.underlying t=some (.slice (P.elem t))) (hs:(P.info? (P.elem t)).map (·.size)=some k)
  (n: ∀b o,Cells w0 X0 b o (enc x)→N (ptr b o)):ad P X w (dt t k v (.int .i64 z)) N:=
 Mm h (i:=i) (by rw [dQ,hr];rfl) hz ht hs n
theorem Qz {t:TypeId} {k:Nat} {v:Value} {rd:World→XS→List Value→α→Prop} {xs:List α} {i:Nat} {z:Int} {x:α} (h:gO w0 X0 k v rd xs) (hr:xs[i]? =some x)
  (hz:z=i) (ht:P.underlying t=some (.slice (P.elem t))) (hs:(P.info? (P.elem t)).map (·.size)=some k)
  (n: ∀b o l,Cells w0 X0 b o l→rd w0 X0 l x→N (ptr b o)):ad P X w (dt t k v (.int .i64 z)) N:=by
 obtain⟨rows,h1,h2,h3⟩:=h;have hi:i<rows.length:=by rw [h2];exact(List.getElem?_eq_some_iff.1 hr).1
 have hl:rows[i]? =some rows[i]:=bT hi;exact Mm h1 hl hz ht hs fun b o hc=>n b o _ hc (h3 i _ _ hl hr)
theorem afk {t:TypeId} {xo yo:Operand} {k:Nat} {v:Value} {rows:List (List Value)} (h:Sl w0 X0 k v rows) (ht:P.underlying t=some (.slice (P.elem t)))
  (hT:v= .slice none 0 0→rows=[]→N (.bool true)) (hF:N (.bool false)):ad P X w (aH .eql t xo yo v (.slice none 0 0)) N:=by
 rcases h.src with⟨rfl,hr⟩|⟨a,cap,rfl,_⟩
 ·exact SE ht (hT rfl hr)
 ·exact SE ht hF
end
theorem Is {xs:List α} {i:Nat} (h:i<xs.length): ∃x,xs[i]? =some x∧xs.drop i=x::xs.drop (i+1):=
 ⟨xs[i],bT h,fz h⟩
theorem eb (xs:List α) (i:Nat):(i<xs.length∧ ∃x,xs[i]? =some x∧xs.drop i=x::xs.drop (i+1))∨(xs.length≤i∧xs.drop i=[]):=by
 rcases Nat.lt_or_ge i xs.length with h|h
 ·exact .inl ⟨h,Is h⟩
 ·exact .inr ⟨h,jT h⟩
theorem ago {l l':List Value} {o n:Nat} {M:Value→Prop} (hl:(l.drop o).take n=l') (k:M (.agg l'.toArray)):un (b7 (.agg l.toArray) o n) M:=
 ZU (hl▸k)
theorem agp {l l' cs:List Value} {o:Nat} {M:Value→Prop} (hl:cz l o cs=l') (k:M (.agg l'.toArray)):
  un (aj (List.toArray (cz l o cs))) M:=by subst hl;exact k
theorem QJ {v:Value} {l:List Value} (h:one v=true) (k:l.all one=true):(v::l).all one=true:=by simp [h,k]
theorem T9:List.all ([]:List Value) one=true:=rfl
theorem afl {l:List Value} {A:Prop} (h:l.all one=true) (k:A):aF (List.all (Array.toList (aa (.agg l.toArray))) one) A:=Xd h k
theorem afm {l:List Value} {A:Prop} (h:l.all one=true) (k:A):aF (List.all l one) A:=Xd h k
theorem agq {l:List Value} {i:Nat} {v:Value} (hi:l[i]? =some v) (h:N v):ad P X w (aC (.tuple l.toArray) i) N:=Uu (by simpa using hi) h
theorem eR {f:FuncId} {args:Array Value} {b:Bool} {N:Value→World→XS→Prop}
  (h:Ct P f args w X nX fun v _ _=>v= .bool b) (hf:enters P f=true) (hX: ∀k,X k→k<w.heap.size)
  (hT:b=true→ ∀w' X',ak X w X' w'→N (.bool true) w' X') (hF:b=false→ ∀w' X',ak X w X' w'→N (.bool false) w' X'):eC P R X w m f args N:=by
 refine ek h hf hX fun v wa w' X' hv _ _ hs=>?_;subst hv;cases b
 ·exact hF rfl w' X' hs
 ·exact hT rfl w' X' hs
theorem dC {f:FuncId} {args:Array Value} {u:Value} {N:Value→World→XS→Prop}
  (h:Ct P f args w X nX fun v _ _=>v=u) (hf:enters P f=true) (hX: ∀k,X k→k<w.heap.size)
  (k: ∀w' X',ak X w X' w'→N u w' X'):eC P R X w m f args N:=by
 refine ek h hf hX fun v wa w' X' hv _ _ hs=>?_;subst hv;exact k w' X' hs
theorem jd {f:FuncId} {args:Array Value} {N:Value→World→XS→Prop}
  (h:Ct P f args w X nX fun v _ _=> ∃n:Int,v= .int .i64 n) (hf:enters P f=true) (hX: ∀k,X k→k<w.heap.size)
  (k: ∀(n:Int) w' X',ak X w X' w'→N (.int .i64 n) w' X'):eC P R X w m f args N:=by
 refine ek h hf hX fun v wa w' X' hv _ _ hs=>?_;obtain⟨n,rfl⟩:=hv;exact k n w' X' hs
theorem agr {t ty:TypeId} {a b:Int} (h:N (.int .i64 (min a b))):ad P X w (je #[t,t] ty #[.int .i64 a,.int .i64 b]) N:=
 cx (fun wa=>by
  simp only [je,List.foldlM];by_cases hc:b<a
  ·have:min a b=b:=by omega
   simp [Bi,hc,this]
  ·have:min a b=a:=by omega
   simp [Bi,hc,this]) h
theorem Xm {src dst:TypeId} {k q:IntKind} {n:Int} (hs:(P.underlying src).isSome=true) (hd:P.underlying dst=some (.int k))
  (h:N (.int k (k.wrap n))):ad P X w (lT k src dst (.int q n)) N:=cx (fun wa=>by
   have e:P.intKind dst=k:=by simp [Program.intKind,hd]
   have:=run_convert_int (P:=P) wa src dst q n hs (by rw [e];exact hd);rw [e] at this;exact this) h
theorem ags {src dst:TypeId} {q:IntKind} {n:Int} (hs:(P.underlying src).isSome=true) (hd:P.underlying dst=some (.float .f64))
  (h:N (.float .f64 (floatOfInt .f64 n))):ad P X w (uN src dst (.int q n)) N:=cx (fun wa=>run_convert_int_float wa src dst q .f64 n hs hd) h
theorem agt {t e:TypeId} {n:Nat} {l:List Value} {z:Int} {i:Nat} {v:Value} (ht:P.underlying t=some (.array n e)) (he:iZ P e=some (false,1)) (hz:z=i) (hn:i<n) (hl:l[i]? =some v)
  (k:N v):ad P X w (tG t n e (.agg l.toArray) (.int .i64 z)) N:=by
 subst hz;unfold iZ at he;split at he
 ·rename_i d q hu AF;simp only [ax,dr] at he;refine cx (v:=v) (fun wa=>?_) k;have x5:(isAgg e).run P wa= .ok false wa:=by cases d<;>simp_all [isAgg,run_underlying hu]
  simp [tG,wy,asIntOf,run_underlying ht,hn,sizeOf,typeInfo,AF,he.2,part,x5,hl]
 ·cases he
theorem agu {op:BinOp} {t:TypeId} {x y r:Nat} (h:floatBits op .f64 x y=some r) (k:N (.float .f64 r)):ad P X w (binOp op t (.float .f64 x) (.float .f64 y)) N:=
 cx (fun wa=>run_float_arith wa op t .f64 x y r h) k
theorem Pt (s:ByteArray):s.size=s.data.toList.length:=by rw [dJ];rfl
theorem agv {t:TypeId} {s:ByteArray} {z:Int} {i:Nat} {b:UInt8} (hb:s.data.toList[i]? =some b) (hz:z=i) (ht:P.underlying t=some .string) (k:N (.int .u8 b.toNat)):
  ad P X w (wy t (.string s) (.int .i64 z)) N:=by
 subst hz;have hi:i<s.data.toList.length:=(List.getElem?_eq_some_iff.1 hb).1;have AF:i<s.size:=by rw [Pt];exact hi
 refine cx (v:=.int .u8 b.toNat) (fun wa=>?_) k;rw [run_index_string wa t s .i64 i ht,dif_pos zQ];have:s[i]=b:=by
  have h2:s.data.toList[i]=b:=(List.getElem?_eq_some_iff.1 hb).2;rw [←h2];rfl
 simp [this]
theorem SG (f:Ieee.Format) (s:Bool) (m:Nat) (p:Int):(f.read (f.nearest s m p)).isNaN=false:=by
 have hle: ∃r,f.nearest s m p=f.word s r∧r≤f.infRung:=by
  unfold Ieee.Format.nearest;split
  ·exact⟨0,rfl,Nat.zero_le _⟩
  ·exact⟨_,rfl,Nat.min_le_right _ _⟩
 obtain⟨r,hr,hle⟩:=hle;have cK:=f.infRung_lt;have hm:f.word s r % f.signWeight=r:=by
  unfold Ieee.Format.word;split
  ·rw [Nat.add_mod_left,wu zQ]
  ·rw [wu zQ]
 rw [hr];unfold Ieee.Format.read;simp only [hm];split
 ·rfl
 ·split
  ·rfl
  ·split
   ·rfl
   ·omega
def chain (p:α→Bool) (r:α→α→Bool):Option α→List α→Bool
 |_,[]=>true
 |none,x::l=>p x&&chain p r (some x) l
 |some y,x::l=>p x&&r y x&&chain p r (some x) l
def oG (xs:List α) (i:Nat):Option α:=if i=0 then none else xs[i-1]?
theorem mU {xs:List α} {i:Nat} {x:α} (h:xs[i]? =some x):oG xs (i+1)=some x:=by simp [oG,h]
theorem Ix {xs:List α} {i:Nat} (h:i<xs.length):(i=0∧oG xs i=none)∨(0<i∧ ∃y,xs[i-1]? =some y∧oG xs i=some y):=by
 by_cases h0:i=0
 ·exact .inl ⟨h0,by simp [oG,h0]⟩
 ·have:xs[i-1]? =some xs[i-1]:=bT zQ;exact .inr ⟨by omega,_,this,by simp [oG,h0,this]⟩
variable {P : Program} {R : Ending → World → Prop} {X : XS} {w : World} {m : Bool}
theorem foldl_set (l:List Value): ∀(n:Nat) (cs:Array Value),n+l.length≤cs.size→
  ((l.zipIdx n).foldl (fun (cs:Array Value) (p:Value×Nat)=>cs.setIfInBounds p.2 p.1) cs).toList=cs.toList.take n++l++cs.toList.drop (n+l.length):=by
 induction l with
 |nil=>intro n cs h;simp
 |cons x r ih=>
  intro n cs h;simp only [bP] at h;simp only [List.zipIdx_cons,List.foldl_cons];rw [ih (n+1) _ (by simp;omega)];have hn:n<cs.toList.length:=by simp;omega
  simp only [Array.toList_setIfInBounds,bP];rw [List.take_set,List.drop_set_of_lt zQ];have:(cs.toList.take (n+1)).set n x=cs.toList.take n++[x]:=by
   rw [List.take_add_one,bT hn];simp only [Option.toList_some];rw [List.set_append_right _ _ (by simp;omega)];have hm:(cs.toList.take n).length=n:=by rw [List.length_take];omega
   rw [hm,Nat.sub_self,List.set_cons_zero]
  rw [this];simp only [List.append_assoc,List.cons_append,fg];rw [show n+1+r.length=n+(r.length+1)by omega]
theorem K4 {k:Nat} {cs:Array Value} {x:Value} (hx:x.cells.size=k) (hc:cs.size=k):
  mZ (fun i=>some (i*k,k)) cs [(0,x)]=some x.cells:=by
 unfold mZ;simp only [Nat.zero_mul,ee,hx,ne_eq,not_true_eq_false,decide_false,hc,Nat.lt_irrefl,gt_iff_lt,Bool.or_self,bh,if_false];unfold mZ;simp only [ax];apply Array.ext';have:=foldl_set x.cells.toList 0 cs (by simp;omega);rw [←Array.toList_zipIdx,Array.foldl_toList] at this;simp only [ee,List.take_zero,fg,dJ] at this;rw [jT (by simp;omega),fh] at this;exact this
def dK (v:Value):XS:=fun g=>v.ownBlock=some g
def mE (P:Program) (t e k bytes:Nat):Bool:=match P.underlying t,P.info? e with
 |some (.slice e'),some i=>e'==e&&i.size==k&&i.bytes==bytes&&(match i.zero with|some z=>z.cells.size==k|none=>false)&&decide (0<k)&&decide (k≤2^20)
 |_,_=>false
theorem kK {t e k bytes:Nat} (h:mE P t e k bytes=true):P.underlying t=some (.slice e)∧0<k∧k≤2^20∧
  ∃z:Value,(P.info? e).bind (fun i=>i.zero.map fun z=>(i.size,i.bytes,z))=some (k,bytes,z)∧(P.info? e).bind (fun i=>i.zero.map fun z=>(i.size,z))=some (k,z)∧z.cells.size=k:=by
 unfold mE at h;split at h
 ·rename_i e' i hu hi;simp only [aV,beq_iff_eq,decide_eq_true_eq] at h;obtain⟨⟨⟨⟨⟨rfl,h2⟩,h3⟩,h4⟩,h5⟩,h6⟩:=h;cases hz:i.zero with
  |none=>simp [hz] at h4
  |some z=>
   simp only [hz,beq_iff_eq] at h4;exact⟨hu,h5,h6,z,by simp [hi,hz,h2,h3],by simp [hi,hz,h2],h4⟩
 ·cases h
section
variable {w0 : World} {X0 : XS} {t ty e k bytes : Nat} {v x s : Value} {rows dq : List (List Value)} {row : List Value} {N : Value → World → XS → Prop}
theorem ZX (own:Own w X w0.heap.size e k v rows) (hs:ak X0 w0 X w) (h0: ∀k,X0 k→k<w0.heap.size) (he:mE P t e k bytes=true) (hx:x.cells.toList=row) (hk:(row.length==k)=true)
  (h1:row.all one=true) (hb:(rows.length+1)*bytes≤140737488355328) (hl:rows.length+1≤2^63-1)
  (n: ∀v' w' X',ak X0 w0 X' w'→Own w' X' w0.heap.size e k v' (rows++[row])→ef (dK v) X w X' w'→(v'.ownBlock=v.ownBlock∨ ∃g,v'.ownBlock=some g∧w.heap.size≤g)→N v' w' X'):
  eV P R X w m (gq t e k 1 #[(0,x)]) fun s w1 X1=>eV P R X1 w1 true (fW t e k bytes ty v s) N:=by
 obtain⟨hu,nS,tS,z,hi,hz,oD⟩:=kK he;have ah:row.length=k:=by simpa using hk
 have wh:x.cells.size=k:=by rw [←ah,←hx,dJ]
 refine EB (rows:=[row]) x.cells z hs.has hu hz zQ zQ ?_ (by simpa using ah) rfl (by simpa using hx) fun s w1 X1 aq Po=>?_
 ·simp only [Nat.one_mul];exact K4 wh (by simp)
 ·have eo:w0.heap.size≤w1.heap.size:=af hs.kp.size aq.kp.size;refine y4 (dq:=[row]) z hu hi oD nS aq.has eo (own.since aq) Po.sl (by simpa using h1) (by simpa using hb) (by simpa using hl) fun v2 w2 X2 hg ho fm=>?_;have hd: ∀g,v.ownBlock=some g→w0.heap.size≤g:=fun g hg=>(own.ge hg).1;refine n v2 w2 X2 ((hs.trans aq).grown hg fun g Zc he=>?_) ho ?_ ?_
  ·have:=hd g he.symm;have:=h0 g Zc;omega
  ·exact(ef.qk aq (dK v)).trans (hg.dF.mono fun k _ hk=>hk.symm)
  ·rcases fm with h|⟨g,h,dU⟩
   ·exact .inl h
   ·exact .inr ⟨g,h,af aq.kp.size dU⟩
theorem V4 {l:List Value} (own:Own w X w0.heap.size e k v rows) (hs:ak X0 w0 X w) (h0: ∀k,X0 k→k<w0.heap.size) (he:mE P t e k bytes=true) (hk:(l.length==k)=true)
  (h1:l.all one=true) (hb:(rows.length+1)*bytes≤140737488355328) (hl:rows.length+1≤2^63-1)
  (n: ∀v' w' X',ak X0 w0 X' w'→Own w' X' w0.heap.size e k v' (rows++[l])→ef (dK v) X w X' w'→(v'.ownBlock=v.ownBlock∨ ∃g,v'.ownBlock=some g∧w.heap.size≤g)→N v' w' X'):
  eV P R X w m (gq t e k 1 #[(0,.agg l.toArray)]) fun s w1 X1=>eV P R X1 w1 true (fW t e k bytes ty v s) N:=ZX own hs h0 he rfl hk h1 hb hl n
theorem No (own:Own w X w0.heap.size e k v rows) (hs:ak X0 w0 X w) (h0: ∀k,X0 k→k<w0.heap.size) (he:mE P t e k bytes=true) (hk:(k==1)=true)
  (ho:one x=true) (hb:(rows.length+1)*bytes≤140737488355328) (hl:rows.length+1≤2^63-1)
  (n: ∀v' w' X',ak X0 w0 X' w'→Own w' X' w0.heap.size e k v' (rows++[[x]])→ef (dK v) X w X' w'→(v'.ownBlock=v.ownBlock∨ ∃g,v'.ownBlock=some g∧w.heap.size≤g)→N v' w' X'):
  eV P R X w m (gq t e k 1 #[(0,x)]) fun s w1 X1=>eV P R X1 w1 true (fW t e k bytes ty v s) N:=by
 refine ZX (row:=[x]) own hs h0 he ?_ (by simpa using (beq_iff_eq.1 hk).symm) (by simpa using ho) hb hl n;cases x<;>first|rfl|cases ho
theorem Mn (own:Own w X w0.heap.size e k v rows) (hs:ak X0 w0 X w) (h0: ∀k,X0 k→k<w0.heap.size) (he:mE P t e k bytes=true) (src:Sl w X k s dq) (h1: ∀r∈dq,∀u∈r,one u=true)
  (hb:(rows.length+dq.length)*bytes≤140737488355328) (hl:rows.length+dq.length≤2^63-1)
  (n: ∀v' w' X',ak X0 w0 X' w'→Own w' X' w0.heap.size e k v' (rows++dq)→ef (dK v) X w X' w'→(v'.ownBlock=v.ownBlock∨ ∃g,v'.ownBlock=some g∧w.heap.size≤g)→N v' w' X'):
  eV P R X w true (fW t e k bytes ty v s) N:=by
 obtain⟨hu,nS,tS,z,hi,hz,oD⟩:=kK he;refine y4 (dq:=dq) z hu hi oD nS hs.has hs.kp.size own src h1 hb hl fun v2 w2 X2 hg ho fm=>?_;have hd: ∀g,v.ownBlock=some g→w0.heap.size≤g:=fun g hg=>(own.ge hg).1;refine n v2 w2 X2 (hs.grown hg fun g Zc he=>?_) ho (hg.dF.mono fun k _ hk=>hk.symm) fm;have:=hd g he.symm;have:=h0 g Zc;omega
theorem QC (hX: ∀k,X k→k<w.heap.size) (hu:P.underlying t=some (.slice e)) (hz:(P.info? e).map (·.size)=some k)
  (n: ∀v w' X',ak X w X' w'→Own w' X' w.heap.size e k v []→N v w' X'):eV P R X w m (gq t e k 0 #[]) N:=ZQ hX hu hz n
end
theorem WH {t e k bytes len:Nat} {parts:Array (Nat×Value)} {rows:List (List Value)} {N:Value→World→XS→Prop} (cells:Array Value) (z:Value) (hX: ∀k,X k→k<w.heap.size) (he:mE P t e k bytes=true)
  (hz:(P.info? e).bind (·.zero)=some z) (Wm:0<len*k) (Mj:len*k≤2^24)
  (h:mZ (fun i=>some (i*k,k)) ((wK (len*k)).map (z.cells[· % z.cells.size]!)) parts.toList=some cells)
  (EC: ∀r∈rows,r.length=k) (hlen:rows.length=len) (hc:cells.toList=rows.flatten)
  (n: ∀v w' X',ak X w X' w'→Own w' X' w.heap.size e k v rows→N v w' X'):eV P R X w m (gq t e k len parts) N:=by
 obtain⟨hu,nS,tS,z',hi,AB,oD⟩:=kK he;have:z'=z:=by
  cases hq:P.info? e with
  |none=>simp [hq] at hz
  |some ie=>cases lH:ie.zero<;>simp_all
 subst this;exact EB cells z' hX hu AB Wm Mj h EC hlen hc n
end Go.bu
