/-
  Part 2 of the proof: what the last text leans on.
-/
import Derived.Laws.Slices
import Derived.Laws.Pointers
import Derived.Recover
import Derived.Laws.MakeOwn
import Derived.Laws.BytesArg
import Derived.Laws.Concat
import Derived.Test.YtpdkoaklobnegaaGreatProg
import Derived.KernelRfl
import Derived.Test.YtpdkoaklobnegaaGreatH1
set_option linter.unusedSectionVars false
namespace Go.Eng
variable {P : Program} {R : Ending → World → Prop} {X Y A A' : XS} {w w' : World} {m : Bool} {κ : Type} [DecidableEq κ] {α : Type}
def fieldAgg (P : Program) (S f : Nat) : Option Bool := match P.underlying S with
  | some (.struct fs) => match fs[f]? with
    | some x => match P.underlying x.type with
      | some (.struct _) | some (.array _ _) => some true
      | some _ => some false
      | none => none
    | none => none
  | _ => none
def MovesV (rd : World → XS → Value → α → Prop) : Prop := ∀ (X Y : XS) (w w' : World) (v : Value) (x : α), rd w X v x → Mv X w Y w' → rd w' Y v x
def Rep (w : World) (A : XS) (rd : World → XS → Value → α → Prop) : List (Ent κ) → List (κ × α) → Prop
  | [], [] => True
  | e :: es, x :: l => e.1 = x.1 ∧ rd w A e.2.1 x.2 ∧ Rep w A rd es l
  | _, _ => False
theorem Rep.mv {rd : World → XS → Value → α → Prop} (hm : MovesV rd) (v : Mv A w A' w') : ∀ {es : List (Ent κ)} {l : List (κ × α)}, Rep w A rd es l → Rep w' A' rd es l
  | [], [], _ => trivial
  | _ :: _, _ :: _, ⟨h1, h2, h3⟩ => ⟨h1, hm _ _ _ _ _ _ h2 v, Rep.mv hm v h3⟩
  | [], _ :: _, h => h.elim
  | _ :: _, [], h => h.elim
theorem Rep.keys {rd : World → XS → Value → α → Prop} : ∀ {es : List (Ent κ)} {l : List (κ × α)}, Rep w A rd es l → es.map (·.1) = l.map (·.1)
  | [], [], _ => rfl
  | _ :: _, _ :: _, ⟨h1, _, h3⟩ => by simp [h1, Rep.keys h3]
  | [], _ :: _, h => h.elim
  | _ :: _, [], h => h.elim
theorem Rep.append {rd : World → XS → Value → α → Prop} : ∀ {es es' : List (Ent κ)} {l l' : List (κ × α)}, Rep w A rd es l → Rep w A rd es' l' → Rep w A rd (es ++ es') (l ++ l')
  | [], _, [], _, _, h' => h'
  | _ :: _, _, _ :: _, _, ⟨h1, h2, h3⟩, h' => ⟨h1, h2, Rep.append h3 h'⟩
  | [], _, _ :: _, _, h, _ => h.elim
  | _ :: _, _, [], _, h, _ => h.elim
def getM (k : κ) (l : List (κ × α)) : Option α := (l.find? fun x => decide (x.1 = k)).map (·.2)
def putM (k : κ) (a : α) : List (κ × α) → List (κ × α)
  | [] => [(k, a)]
  | x :: l => if x.1 = k then (k, a) :: l else x :: putM k a l
def delM (k : κ) (l : List (κ × α)) : List (κ × α) := l.filter fun x => decide (x.1 ≠ k)
theorem Rep.get {rd : World → XS → Value → α → Prop} (k : κ) : ∀ {es : List (Ent κ)} {l : List (κ × α)}, Rep w A rd es l →
    (getE k es = none ∧ getM k l = none) ∨ ∃ v a, getE k es = some v ∧ getM k l = some a ∧ rd w A v a
  | [], [], _ => .inl ⟨rfl, rfl⟩
  | e :: es, x :: l, ⟨h1, h2, h3⟩ => by
    by_cases hk : x.1 = k
    · exact .inr ⟨e.2.1, x.2, by simp [getE, h1, hk], by simp [getM, hk], h2⟩
    · rcases Rep.get k h3 with ⟨q1, q2⟩ | ⟨v, a, q1, q2, q3⟩
      · left; constructor
        · simp only [getE, List.find?_cons, h1, hk, decide_false, Bool.false_eq_true, if_false]; exact q1
        · simp only [getM, List.find?_cons, hk, decide_false, Bool.false_eq_true, if_false]; exact q2
      · right; refine ⟨v, a, ?_, ?_, q3⟩
        · simp only [getE, List.find?_cons, h1, hk, decide_false, Bool.false_eq_true, if_false]; exact q1
        · simp only [getM, List.find?_cons, hk, decide_false, Bool.false_eq_true, if_false]; exact q2
  | [], _ :: _, h => h.elim
  | _ :: _, [], h => h.elim
def putE' (k : κ) (v : Value) (c : Nat) : List (Ent κ) → List (Ent κ)
  | [] => [(k, v, c)]
  | e :: es => if e.1 = k then (e.1, v, e.2.2) :: es else e :: putE' k v c es
theorem putE_eq (k : κ) (v : Value) (c : Nat) (es : List (Ent κ)) : (putE k v c es).1 = putE' k v c es := by
  induction es with
  | nil => simp [putE, putE']
  | cons e es ih =>
    unfold putE at ih ⊢
    by_cases hk : e.1 = k
    · simp [List.findIdx?_cons, hk, putE']
    · simp only [List.findIdx?_cons, hk, decide_false, Bool.false_eq_true, if_false, putE']
      cases hf : es.findIdx? fun x => decide (x.1 = k) with
      | none => rw [hf] at ih; simp only [Option.map_none, List.cons_append] at ih ⊢; rw [ih]
      | some j => rw [hf] at ih; simp only [Option.map_some, List.modify_succ_cons] at ih ⊢; rw [ih]
theorem Rep.put {rd : World → XS → Value → α → Prop} {k : κ} {v : Value} {a : α} {c : Nat} (hv : rd w A v a) : ∀ {es : List (Ent κ)} {l : List (κ × α)}, Rep w A rd es l → Rep w A rd (putE' k v c es) (putM k a l)
  | [], [], _ => ⟨rfl, hv, trivial⟩
  | e :: es, x :: l, ⟨h1, h2, h3⟩ => by
    unfold putE' putM
    by_cases hk : x.1 = k
    · rw [if_pos (h1.trans hk), if_pos hk]; exact ⟨h1.trans hk, hv, h3⟩
    · rw [if_neg (by rw [h1]; exact hk), if_neg hk]; exact ⟨h1, h2, Rep.put hv h3⟩
  | [], _ :: _, h => h.elim
  | _ :: _, [], h => h.elim
def delE' (k : κ) (es : List (Ent κ)) : List (Ent κ) := es.filter fun x => decide (x.1 ≠ k)
theorem delE_eq (k : κ) : ∀ (es : List (Ent κ)), (es.map (·.1)).Nodup → delE k es = delE' k es
  | [], _ => rfl
  | e :: es, h => by
    have h' : (es.map (·.1)).Nodup := (List.nodup_cons.1 h).2
    have ih := delE_eq k es h'
    unfold delE at ih ⊢
    by_cases hk : e.1 = k
    · have : es.filter (fun x => decide (x.1 ≠ k)) = es := List.filter_eq_self.2 fun x hx => by
        have : x.1 ≠ k := fun hxk => (List.nodup_cons.1 h).1 (by simp only [List.mem_map]; exact ⟨x, hx, by rw [hxk, hk]⟩)
        simpa using this
      simp only [delE'] at this ⊢
      simp only [List.findIdx?_cons, hk, decide_true, if_true, List.eraseIdx_cons_zero, ne_eq, not_true_eq_false, decide_false, List.filter_cons, Bool.false_eq_true, if_false]
      exact this.symm
    · simp only [List.findIdx?_cons, hk, decide_false, Bool.false_eq_true, if_false]
      cases hf : es.findIdx? fun x => decide (x.1 = k) with
      | none => rw [hf] at ih; simp only [Option.map_none]; simp only at ih; rw [ih]; simp [delE', hk, ← ih]
      | some j => rw [hf] at ih; simp only [Option.map_some, List.eraseIdx_cons_succ] at ih ⊢; rw [ih]; simp [delE', hk]
theorem Rep.filter {rd : World → XS → Value → α → Prop} (p : κ → Bool) : ∀ {es : List (Ent κ)} {l : List (κ × α)}, Rep w A rd es l → Rep w A rd (es.filter fun x => p x.1) (l.filter fun x => p x.1)
  | [], [], _ => trivial
  | e :: es, x :: l, ⟨h1, h2, h3⟩ => by
    have ih := Rep.filter p h3
    by_cases hp : p x.1 = true
    · simp only [List.filter_cons, h1, hp, if_true]; exact ⟨h1, h2, ih⟩
    · simp only [List.filter_cons, h1, hp, if_false]; exact ih
  | [], _ :: _, h => h.elim
  | _ :: _, [], h => h.elim
theorem Rep.mem {rd : World → XS → Value → α → Prop} : ∀ {es : List (Ent κ)} {l : List (κ × α)}, Rep w A rd es l → ∀ e ∈ es, ∃ a, (e.1, a) ∈ l ∧ rd w A e.2.1 a
  | [], [], _, _, h => by cases h
  | e0 :: es, x :: l, ⟨h1, h2, h3⟩, e, he => by
    rcases List.mem_cons.1 he with rfl | he
    · exact ⟨x.2, by rw [h1]; simp, h2⟩
    · obtain ⟨a, ha, hr⟩ := Rep.mem h3 e he
      exact ⟨a, List.mem_cons_of_mem _ ha, hr⟩
  | [], _ :: _, h, _, _ => h.elim
  | _ :: _, [], h, _, _ => h.elim
def MapR (w : World) (X A : XS) (b : Nat) (kv : κ → Value) (rd : World → XS → Value → α → Prop) (l : List (κ × α)) : Prop :=
  ∃ es c, MapIs w X b kv es c ∧ Rep w A rd es l
theorem MapR.mv {b : Nat} {kv : κ → Value} {rd : World → XS → Value → α → Prop} {l : List (κ × α)} (h : MapR w X A b kv rd l) (hm : MovesV rd) (v : Mv X w Y w') (va : Mv A w A' w') : MapR w' Y A' b kv rd l :=
  let ⟨es, c, h1, h2⟩ := h
  ⟨es, c, h1.mv v, h2.mv hm va⟩
theorem MapR.nodup {b : Nat} {kv : κ → Value} {rd : World → XS → Value → α → Prop} {l : List (κ × α)} (h : MapR w X A b kv rd l) : (l.map (·.1)).Nodup := by
  obtain ⟨es, c, h1, h2⟩ := h; rw [← h2.keys]; exact h1.2.2.1
theorem MapR.x {b : Nat} {kv : κ → Value} {rd : World → XS → Value → α → Prop} {l : List (κ × α)} (h : MapR w X A b kv rd l) : X b ∧ b < w.heap.size :=
  let ⟨_, _, h1, _⟩ := h
  ⟨h1.1, (Array.getElem?_eq_some_iff.1 h1.2.1).1⟩
theorem MapR.own {b : Nat} {kv : κ → Value} {rd : World → XS → Value → α → Prop} {l : List (κ × α)} (h : MapR w X A b kv rd l) : MapR w (fun k => k = b) A b kv rd l :=
  let ⟨es, c, h1, h2⟩ := h
  ⟨es, c, ⟨rfl, h1.2⟩, h2⟩
theorem RowIs.own {b : Nat} {cs : List Value} {ty : TypeId} (h : RowIs w X b cs ty) : RowIs w (fun k => k = b) b cs ty := ⟨rfl, h.2⟩
theorem RowIs.lt {b : Nat} {cs : List Value} {ty : TypeId} (h : RowIs w X b cs ty) : b < w.heap.size := (Array.getElem?_eq_some_iff.1 h.2).1
theorem Mv.one {b : Nat} (hk : Kp X w w') (hb : X b) (hy : Y b) : Mv (fun k => k = b) w Y w' := fun k hk' _ => by subst hk'; exact ⟨hy, hk.block _ hb⟩
theorem m_makeMap {t : TypeId} {kv : κ → Value} (rd : World → XS → Value → α → Prop) (A : XS) {N : Value → World → XS → Prop} (hX : ∀ k, X k → k < w.heap.size)
    (n : ∀ b w' X', w.heap.size ≤ b → Since X w X' w' → MapR w' X' A b kv rd [] → N (.map (some b)) w' X') : eV P R X w m (Instr.makeMap t none) N :=
  eV_makeMap hX fun b w' X' hb hs hm => n b w' X' hb hs ⟨[], 0, hm, trivial⟩
theorem m_mapGet {t kt et b : Nat} {kv : κ → Value} {rd : World → XS → Value → α → Prop} {l : List (κ × α)} {k : κ} {N : Value → Prop} (z : Value) (h : MapR w X A b kv rd l) (K : KeyOf P kt kv)
    (ht : P.underlying t = some (.map kt et)) (hz : (P.info? et).bind (·.zero) = some z)
    (n1 : ∀ v a, getM k l = some a → rd w A v a → N (.tuple #[v, .bool true])) (n0 : getM k l = none → N (.tuple #[z, .bool false])) :
    rdV P X w (Instr.lookup t (.map (some b)) (kv k) true) N := by
  obtain ⟨es, c, h1, h2⟩ := h
  refine rdV_lookup z h1 K ht hz ?_
  rcases h2.get k with ⟨q1, q2⟩ | ⟨v, a, q1, q2, q3⟩
  · rw [q1]; exact n0 q2
  · rw [q1]; exact n1 v a q2 q3
theorem m_mapGet1 {t kt et b : Nat} {kv : κ → Value} {rd : World → XS → Value → α → Prop} {l : List (κ × α)} {k : κ} {N : Value → Prop} (z : Value) (h : MapR w X A b kv rd l) (K : KeyOf P kt kv)
    (ht : P.underlying t = some (.map kt et)) (hz : (P.info? et).bind (·.zero) = some z)
    (n1 : ∀ v a, getM k l = some a → rd w A v a → N v) (n0 : getM k l = none → N z) :
    rdV P X w (Instr.lookup t (.map (some b)) (kv k) false) N := by
  have key : ∀ u q, (∀ wa, Kp X w wa → (Instr.lookup t (.map (some b)) (kv k) true).run P wa = .ok (.tuple #[u, .bool q]) wa) → ∀ wa, Kp X w wa → (Instr.lookup t (.map (some b)) (kv k) false).run P wa = .ok u wa := by
    intro u q hq wa hk
    have h1 := hq wa hk
    obtain ⟨es, c, hm, _⟩ := h
    have hb := (hm.kp hk).2.1
    simp only [Instr.lookup, Sem.run_bind, run_underlying ht, Result.andThen_ok, getObj, Sem.run, hb, K.chk, List.toList_toArray, K.find] at h1 ⊢
    cases hf : findI k es 0 with
    | none =>
      cases hi : P.info? et with
      | none => simp [hi] at hz
      | some inf =>
        have hz' : inf.zero = some z := by simpa [hi] using hz
        simp [zeroValue, typeInfo, hi, hz', K.find, hf] at h1 ⊢
        exact h1.1
    | some r =>
      simp [K.find, hf] at h1 ⊢
      exact h1.1
  have := m_mapGet (N := fun v => ∃ u q, v = .tuple #[u, .bool q] ∧ N u) z h K ht hz (fun v a h1 h2 => ⟨v, _, rfl, n1 v a h1 h2⟩) (fun h0 => ⟨z, _, rfl, n0 h0⟩)
  obtain ⟨v, hv, u, q, rfl, hn⟩ := this
  refine rdV_of u (key u q fun wa hk => ?_) hn
  have := hv wa hk
  simp only [vS, Sem.run_bind] at this
  cases hr : (Instr.lookup t (.map (some b)) (kv k) true).run P wa with
  | ok a w2 => rw [hr] at this; simp only [Result.andThen_ok, Sem.run_pure, Result.ok.injEq, Next.value.injEq] at this; rw [this.1, this.2]
  | halt a w2 => rw [hr] at this; simp [Result.andThen] at this
theorem m_mapPut {t kt et b : Nat} {kv : κ → Value} {rd : World → XS → Value → α → Prop} {l : List (κ × α)} {k : κ} {v : Value} {a : α} {N : Value → World → XS → Prop} (h : MapR w X A b kv rd l) (hm : MovesV rd)
    (hv : rd w A v a) (hA : ∀ k, A k → X k ∧ k ≠ b) (K : KeyOf P kt kv) (ht : P.underlying t = some (.map kt et)) (hX : ∀ k, X k → k < w.heap.size)
    (n : ∀ w' X', Chg (· = b) X w X' w' → MapR w' X' A b kv rd (putM k a l) → N undef w' X') :
    eU P R X w true (Instr.mapUpdate t (.map (some b)) (kv k) v) N := by
  obtain ⟨es, c, h1, h2⟩ := h
  refine eU_put h1 K ht hX fun w' X' hg hi => ?_
  have hc : Chg (· = b) X w X' w' := hg.chg.mono fun k _ hk => by simpa using hk
  refine n w' X' hc ⟨_, _, hi, ?_⟩
  rw [putE_eq]
  have mv : Mv A w A w' := fun k hk _ => ⟨hk, hc.block k (hA k hk).1 (hA k hk).2⟩
  exact (h2.put hv).mv hm mv
theorem m_mapDel {t kt et tk ty b : Nat} {kv : κ → Value} {rd : World → XS → Value → α → Prop} {l : List (κ × α)} {k : κ} {N : Value → World → XS → Prop} (h : MapR w X A b kv rd l) (hm : MovesV rd)
    (hA : ∀ k, A k → X k ∧ k ≠ b) (K : KeyOf P kt kv) (ht : P.underlying t = some (.map kt et)) (hX : ∀ k, X k → k < w.heap.size)
    (n : ∀ w' X', Chg (· = b) X w X' w' → MapR w' X' A b kv rd (delM k l) → N (.tuple #[]) w' X') :
    eV P R X w true (Builtin.delete_ #[t, tk] ty #[.map (some b), kv k]) N := by
  obtain ⟨es, c, h1, h2⟩ := h
  refine eV_delete h1 K ht hX fun w' X' hg hi => ?_
  have hc : Chg (· = b) X w X' w' := hg.chg.mono fun k _ hk => by simpa using hk
  refine n w' X' hc ⟨_, _, hi, ?_⟩
  rw [delE_eq _ _ h1.2.2.1]
  have mv : Mv A w A w' := fun k hk _ => ⟨hk, hc.block k (hA k hk).1 (hA k hk).2⟩
  exact (h2.filter (fun x => decide (x ≠ k))).mv hm mv
def ItR (w : World) (X A : XS) (r b : Nat) (kv : κ → Value) (rd : World → XS → Value → α → Prop) (l left : List (κ × α)) : Prop :=
  ∃ es c les, ItIs w X r b kv es c les ∧ Rep w A rd es l ∧ Rep w A rd les left ∧ les.Sublist es
theorem ItR.mv {r b : Nat} {kv : κ → Value} {rd : World → XS → Value → α → Prop} {l left : List (κ × α)} (h : ItR w X A r b kv rd l left) (hm : MovesV rd) (v : Mv X w Y w') (va : Mv A w A' w') : ItR w' Y A' r b kv rd l left := by
  obtain ⟨es, c, les, h1, h2, h3, h4⟩ := h
  refine ⟨es, c, les, ⟨h1.1.mv v, ?_, h1.2.2.1, ?_⟩, h2.mv hm va, h3.mv hm va, h4⟩
  · obtain ⟨s, hs, _⟩ := h1.2.2.2
    exact (v r h1.2.1 (Array.getElem?_eq_some_iff.1 hs).1).1
  · obtain ⟨s, hs, hl⟩ := h1.2.2.2
    exact ⟨s, by rw [(v r h1.2.1 (Array.getElem?_eq_some_iff.1 hs).1).2]; exact hs, hl⟩
theorem ItR.map {r b : Nat} {kv : κ → Value} {rd : World → XS → Value → α → Prop} {l left : List (κ × α)} (h : ItR w X A r b kv rd l left) : MapR w X A b kv rd l :=
  let ⟨es, c, _, h1, h2, _⟩ := h
  ⟨es, c, h1.1, h2⟩
theorem ItR.nodup {r b : Nat} {kv : κ → Value} {rd : World → XS → Value → α → Prop} {l left : List (κ × α)} (h : ItR w X A r b kv rd l left) : (left.map (·.1)).Nodup := by
  obtain ⟨es, c, les, h1, h2, h3, h4⟩ := h
  rw [← h3.keys]
  exact h1.1.2.2.1.sublist (h4.map _)
theorem any_split {l : List (κ × α)} (c : κ × α → Bool) : (l.map (·.1)).Nodup → ∀ {k : κ} {a : α}, (k, a) ∈ l → l.any c = (c (k, a) || (l.filter fun y => decide (y.1 ≠ k)).any c) := by
  induction l with
  | nil => intro _ k a h; cases h
  | cons x l ih =>
    intro hn k a h
    have hn' := List.nodup_cons.1 hn
    rcases List.mem_cons.1 h with h | h
    · subst h
      have : l.filter (fun y => decide (y.1 ≠ k)) = l := List.filter_eq_self.2 fun y hy => by
        have : y.1 ≠ k := fun e => hn'.1 (List.mem_map.2 ⟨y, hy, e⟩)
        simpa using this
      simp only [List.any_cons, List.filter_cons, ne_eq, not_true_eq_false, decide_false, Bool.false_eq_true, if_false]
      simp only [ne_eq] at this
      rw [this]
    · have hx : x.1 ≠ k := fun e => hn'.1 (List.mem_map.2 ⟨(k, a), h, e.symm⟩)
      have := ih hn'.2 h
      simp only [List.any_cons, List.filter_cons, hx, ne_eq, not_false_eq_true, decide_true, if_true]
      simp only [ne_eq] at this
      rw [this, ← Bool.or_assoc, ← Bool.or_assoc, Bool.or_comm (c x)]
theorem left_lt {l : List (κ × α)} {k : κ} {a : α} (h : (k, a) ∈ l) : (l.filter fun y => decide (y.1 ≠ k)).length < l.length := by
  refine Nat.lt_of_le_of_ne (List.length_filter_le _ _) fun e => ?_
  have := List.length_filter_eq_length_iff.1 e (k, a) h
  simp at this
theorem Since.mvA {X0 : XS} {w0 : World} (h : Since X0 w0 X w) (hA : ∀ k, A k → X0 k) : Mv A w0 A w := fun k hk _ => ⟨hk, h.kp.block k (hA k hk)⟩
theorem m_range {t kt et b : Nat} {kv : κ → Value} {rd : World → XS → Value → α → Prop} {l : List (κ × α)} {N : Value → World → XS → Prop} (h : MapR w X A b kv rd l) (hm : MovesV rd) (hA : ∀ k, A k → X k)
    (ht : P.underlying t = some (.map kt et)) (hX : ∀ k, X k → k < w.heap.size)
    (n : ∀ r w' X', w.heap.size ≤ r → Since X w X' w' → ItR w' X' A r b kv rd l l → N (ptr r 0) w' X') : eV P R X w m (Instr.range t (.map (some b))) N := by
  obtain ⟨es, c, h1, h2⟩ := h
  refine eV_range h1 ht hX fun r w' X' hr hs hi => n r w' X' hr hs ?_
  have mv : Mv A w A w' := fun k hk _ => ⟨hk, hs.kp.block k (hA k hk)⟩
  exact ⟨es, c, es, hi, h2.mv hm mv, h2.mv hm mv, List.Sublist.refl _⟩
theorem m_next {ty r b : Nat} {kv : κ → Value} {rd : World → XS → Value → α → Prop} {l left : List (κ × α)} {N : Value → World → XS → Prop} (h : ItR w X A r b kv rd l left) (hm : MovesV rd)
    (hA : ∀ k, A k → X k ∧ k ≠ r) (hX : ∀ k, X k → k < w.heap.size)
    (n0 : left = [] → ∀ w' X', Since X w X' w' → N (.tuple #[.bool false]) w' X')
    (n1 : ∀ k a v, (k, a) ∈ left → ∀ w' X', Chg (· = r) X w X' w' → rd w' A v a → ItR w' X' A r b kv rd l (left.filter fun y => decide (y.1 ≠ k)) →
      (∀ wa, Kp X' w' wa → (Instr.entry (ptr r 0)).run P wa = .ok (.tuple #[kv k, v]) wa) → N (.tuple #[.bool true, kv k, v]) w' X') :
    eV P R X w true (Instr.next (ptr r 0) false ty) N := by
  obtain ⟨es, c, les, h1, h2, h3, h4⟩ := h
  refine eV_next h1 hX (fun h0 w' X' hs => n0 ?_ w' X' hs) fun x hx w' X' hg hi he => ?_
  · subst h0; cases left with
    | nil => rfl
    | cons y t => exact h3.elim
  · have hc : Chg (· = r) X w X' w' := hg.chg.mono fun k _ hk => by simpa using hk
    have mv : Mv A w A w' := fun k hk _ => ⟨hk, hc.block k (hA k hk).1 (hA k hk).2⟩
    obtain ⟨a, ha, hra⟩ := h3.mem x hx
    refine n1 x.1 a x.2.1 ha w' X' hc (hm _ _ _ _ _ _ hra mv) ?_ he
    have hk : ∀ y ∈ les, decide (y.2.2 ≠ x.2.2) = decide (y.1 ≠ x.1) := by
      intro y hy
      have hye := h4.subset hy
      have hxe := h4.subset hx
      have n1 := h1.1.2.2.1
      have n2 := h1.1.2.2.2.1
      obtain ⟨i, hi9, rfl⟩ := List.getElem_of_mem hye
      obtain ⟨j, hj, rfl⟩ := List.getElem_of_mem hxe
      have inj : ∀ {β : Type} (f : Ent κ → β), (es.map f).Nodup → (f es[i] = f es[j] ↔ i = j) := by
        intro β f n
        constructor
        · intro e
          have hp := List.pairwise_iff_getElem.1 n
          rcases Nat.lt_trichotomy i j with h | h | h
          · exact absurd (by rw [List.getElem_map, List.getElem_map]; exact e) (hp i j (by simpa using hi9) (by simpa using hj) h)
          · exact h
          · exact absurd (by rw [List.getElem_map, List.getElem_map]; exact e.symm) (hp j i (by simpa using hj) (by simpa using hi9) h)
        · rintro rfl; rfl
      have e1 := inj (·.1) n1
      have e2 := inj (·.2.2) n2
      simp only [ne_eq, e1, e2]
    have hf : (les.filter fun y => decide (y.2.2 ≠ x.2.2)) = les.filter fun y => decide (y.1 ≠ x.1) := List.filter_congr hk
    refine ⟨es, c, _, hi, h2.mv hm mv, ?_, ?_⟩
    · rw [hf]; exact (h3.filter (fun k => decide (k ≠ x.1))).mv hm mv
    · exact (List.filter_sublist).trans h4
theorem m_entry {r : Nat} {k v : Value} {N : Value → World → XS → Prop} (hX : ∀ k, X k → k < w.heap.size)
    (h : ∀ wa, Kp X w wa → (Instr.entry (ptr r 0)).run P wa = .ok (.tuple #[k, v]) wa) (n : ∀ w' X', Since X w X' w' → N (.tuple #[k, v]) w' X') :
    eV P R X w m (Instr.entry (ptr r 0)) N := eV_entry hX h n
def RepX (w : World) (A : XS) (rd : World → XS → Value → α → Prop) (k : κ) : List (Ent κ) → List (κ × α) → Prop
  | [], [] => True
  | e :: es, x :: l => e.1 = x.1 ∧ (x.1 ≠ k → rd w A e.2.1 x.2) ∧ RepX w A rd k es l
  | _, _ => False
theorem RepX.put {rd : World → XS → Value → α → Prop} {k : κ} {v : Value} {a : α} {c : Nat} (hv : rd w A v a) : ∀ {es : List (Ent κ)} {l : List (κ × α)}, (es.map (·.1)).Nodup → RepX w A rd k es l → Rep w A rd (putE' k v c es) (putM k a l)
  | [], [], _, _ => ⟨rfl, hv, trivial⟩
  | e :: es, x :: l, hn, ⟨h1, h2, h3⟩ => by
    have hn' := List.nodup_cons.1 hn
    unfold putE' putM
    by_cases hk : x.1 = k
    · rw [if_pos (h1.trans hk), if_pos hk]
      refine ⟨h1.trans hk, hv, ?_⟩
      have hne : ∀ y ∈ es, y.1 ≠ k := fun y hy e' => hn'.1 (List.mem_map.2 ⟨y, hy, e'.trans (hk.symm.trans h1.symm)⟩)
      clear hn hn' h1 h2
      induction es generalizing l with
      | nil => cases l <;> first | trivial | exact h3.elim
      | cons e2 es ih =>
        cases l with
        | nil => exact h3.elim
        | cons y l => exact ⟨h3.1, h3.2.1 (h3.1 ▸ hne e2 (by simp)), ih l h3.2.2 fun z hz => hne z (by simp [hz])⟩
    · rw [if_neg (by rw [h1]; exact hk), if_neg hk]; exact ⟨h1, h2 hk, RepX.put hv hn'.2 h3⟩
  | [], _ :: _, _, h => h.elim
  | _ :: _, [], _, h => h.elim
theorem mem_get {l : List (κ × α)} {k : κ} {a : α} (h : getM k l = some a) : (k, a) ∈ l := by
  unfold getM at h
  obtain ⟨x, hx, rfl⟩ := Option.map_eq_some_iff.1 h
  have h1 := List.mem_of_find?_eq_some hx
  have h2 : x.1 = k := by simpa using List.find?_some hx
  subst h2; exact h1
theorem getM_of_mem {l : List (κ × α)} (hn : (l.map (·.1)).Nodup) {k : κ} {a : α} (h : (k, a) ∈ l) : getM k l = some a := by
  induction l with
  | nil => cases h
  | cons x l ih =>
    have hn' := List.nodup_cons.1 hn
    rcases List.mem_cons.1 h with h | h
    · subst h; simp [getM]
    · have hx : x.1 ≠ k := fun e => hn'.1 (List.mem_map.2 ⟨(k, a), h, e.symm⟩)
      have := ih hn'.2 h
      simp only [getM, List.find?_cons, hx, decide_false, Bool.false_eq_true, if_false]
      exact this
theorem mem_putM {l : List (κ × α)} {k : κ} {a : α} : ∀ {x : κ × α}, (l.map (·.1)).Nodup → x ∈ putM k a l → x = (k, a) ∨ (x ∈ l ∧ x.1 ≠ k) := by
  induction l with
  | nil => intro x _ h; left; simpa [putM] using h
  | cons y l ih =>
    intro x hn h
    have hn' := List.nodup_cons.1 hn
    unfold putM at h
    split at h
    · rename_i hy
      rcases List.mem_cons.1 h with h | h
      · exact .inl h
      · exact .inr ⟨by simp [h], fun e => hn'.1 (List.mem_map.2 ⟨x, h, e.trans hy.symm⟩)⟩
    · rename_i hy
      rcases List.mem_cons.1 h with h | h
      · exact .inr ⟨by simp [h], by rw [h]; exact hy⟩
      · rcases ih hn'.2 h with h | ⟨h, h2⟩
        · exact .inl h
        · exact .inr ⟨by simp [h], h2⟩
theorem m_boxA {t : TypeId} {l : List Value} {N : Value → World → XS → Prop} (hX : ∀ k, X k → k < w.heap.size)
    (n : ∀ b w' X', w.heap.size ≤ b → Since X w X' w' → RowIs w' X' b l t → N (ptr b 0) w' X') : eV P R X w m (Instr.box t (.agg l.toArray)) N :=
  eV_box' hX fun b w' X' hb hs hx hr => n b w' X' hb hs ⟨hx, by simpa [Value.cells] using hr⟩
theorem m_boxS {t : TypeId} {v : Value} {N : Value → World → XS → Prop} (ho : one v = true) (hX : ∀ k, X k → k < w.heap.size)
    (n : ∀ b w' X', w.heap.size ≤ b → Since X w X' w' → RowIs w' X' b [v] t → N (ptr b 0) w' X') : eV P R X w m (Instr.box t v) N :=
  eV_box' hX fun b w' X' hb hs hx hr => n b w' X' hb hs ⟨hx, by
    have : v.cells.toList = [v] := by cases v <;> first | rfl | cases ho
    rw [this] at hr; exact hr⟩
theorem Since.refl' {w : World} {X : XS} (h : ∀ k, X k → k < w.heap.size) : Since X w X w := ⟨Kp.refl _ _, fun _ h => h, h⟩
theorem r_fdV1 {S f fo : Nat} {l : List Value} {v : Value} {N : Value → Prop} (hf : fieldInfo P S f = some (fo, 1)) (hg : fieldAgg P S f = some false) (hl : l[fo]? = some v) (k : N v) : rdV P X w (fdV S f fo 1 (.agg l.toArray)) N := by
  unfold fieldInfo at hf
  unfold fieldAgg at hg
  cases hu : P.underlying S with
  | none => simp [hu] at hf
  | some d =>
    cases d <;> simp only [hu] at hf <;> try (cases hf; done)
    rename_i fs
    cases hx : fs[f]? with
    | none => simp [hx] at hf
    | some x =>
      simp only [hx, Option.bind_some, hu] at hf hg
      cases hi : P.info? x.type with
      | none => simp [hi] at hf
      | some i =>
        simp only [hi, Option.map_some, Option.some.injEq, Prod.mk.injEq] at hf
        cases hd : P.underlying x.type with
        | none => simp [hd] at hg
        | some d2 =>
          refine rdV_pure (v := v) (fun wa => ?_) k
          have hagg : (isAgg x.type).run P wa = .ok false wa := by
            cases d2 <;> simp_all [isAgg, run_underlying hd]
          simp [fdV, Instr.field, run_underlying hu, hx, asAgg, part, hagg, hf.1, hl]
theorem r_fdVn {S f fo sz : Nat} {l l' : List Value} {N : Value → Prop} (hf : fieldInfo P S f = some (fo, sz)) (hg : fieldAgg P S f = some true) (hlen : decide (fo + sz ≤ l.length) = true) (hl : (l.drop fo).take sz = l')
    (k : N (.agg l'.toArray)) : rdV P X w (fdV S f fo sz (.agg l.toArray)) N := by
  subst hl
  unfold fieldInfo at hf
  unfold fieldAgg at hg
  cases hu : P.underlying S with
  | none => simp [hu] at hf
  | some d =>
    cases d <;> simp only [hu] at hf <;> try (cases hf; done)
    rename_i fs
    cases hx : fs[f]? with
    | none => simp [hx] at hf
    | some x =>
      simp only [hx, Option.bind_some, hu] at hf hg
      cases hi : P.info? x.type with
      | none => simp [hi] at hf
      | some i =>
        simp only [hi, Option.map_some, Option.some.injEq, Prod.mk.injEq] at hf
        cases hd : P.underlying x.type with
        | none => simp [hd] at hg
        | some d2 =>
          refine rdV_pure (v := .agg ((l.drop fo).take sz).toArray) (fun wa => ?_) k
          have hagg : (isAgg x.type).run P wa = .ok true wa := by
            cases d2 <;> simp_all [isAgg, run_underlying hd]
          have hle : fo + sz ≤ l.length := by simpa using hlen
          obtain ⟨rfl, rfl⟩ := hf
          simp [fdV, Instr.field, run_underlying hu, hx, asAgg, part, hagg, sizeOf, typeInfo, hi, hle]
theorem m_fun {f : FuncId} {la lc l : List Value} {N : Value → World → XS → Prop} (hl : la ++ lc = l) (h : eC P R X w m f l.toArray N) : eF P R X w m (.func (.func f) #[] lc.toArray) la.toArray N := by
  subst hl
  have e : ∀ wa, (callV (.func (.func f) #[] lc.toArray) la.toArray).run P wa = (callFunc f (la ++ lc).toArray).run P wa := by
    intro wa
    simp [callV, Deferred.ofValue, invoke]
  intro wa hk
  have := h wa hk
  rw [e wa]; exact this
theorem m_mkFun {fn : Fn} {a c : Array Value} {N : Value → Prop} (h : N (.func fn a c)) : rdV P X w (Instr.makeFunc fn a c) N := rdV_pure (fun wa => by simp [Instr.makeFunc]) h
theorem Ct.kp {f : FuncId} {args : Array Value} {F : XS} {Q : Value → World → World → Prop} (h : Ct P f args w X F Q) {w' : World} (hk : Kp X w w') : Ct P f args w' X F Q := fun wa hk' => h wa (hk.trans hk')
theorem Ct.since {f : FuncId} {args : Array Value} {F X' : XS} {Q : Value → World → World → Prop} (h : Ct P f args w X F Q) {w' : World} (hs : Since X w X' w') : Ct P f args w' X' F Q := fun wa hk' => h wa (hs.kp.trans (hk'.less hs.sub))
theorem Ct.old {f : FuncId} {args : Array Value} {F : XS} {Q : Value → World → World → Prop} (h : Ct P f args w X F Q) (hX : ∀ k, X k → k < w.heap.size) : Ct P f args w (Eng.old w) F Q :=
  fun wa hk' => h wa (hk'.less fun k hk => hX k hk)
def idxOf (p : α → Bool) : List α → Int
  | [] => -1
  | x :: l => if p x then 0 else let i := idxOf p l; if i < 0 then i else i + 1
theorem idxOf_any (p : α → Bool) : ∀ l : List α, decide (idxOf p l ≥ 0) = l.any p
  | [] => rfl
  | x :: l => by
    have ih := idxOf_any p l
    unfold idxOf
    by_cases hp : p x
    · simp [hp]
    · simp only [hp, Bool.false_eq_true, if_false, List.any_cons, Bool.false_or, ← ih]
      by_cases hi : idxOf p l < 0
      · simp [hi]
      · simp only [hi, if_false]; congr 1; simp; omega
theorem idxOf_at {p : α → Bool} {l : List α} {i : Nat} (h : ∀ k x, k < i → l[k]? = some x → p x = false) {x : α} (hx : l[i]? = some x) (hp : p x = true) : idxOf p l = i := by
  induction l generalizing i with
  | nil => simp at hx
  | cons y l ih =>
    cases i with
    | zero => simp only [List.getElem?_cons_zero, Option.some.injEq] at hx; subst hx; simp [idxOf, hp]
    | succ i =>
      have hy := h 0 y (by omega) rfl
      have := ih (i := i) (fun k z hk hz => h (k + 1) z (by omega) (by simpa using hz)) (by simpa using hx)
      simp only [idxOf, hy, Bool.false_eq_true, if_false, this]
      rw [if_neg (by omega)]; omega
theorem idxOf_none {p : α → Bool} {l : List α} (h : ∀ k x, k < l.length → l[k]? = some x → p x = false) : idxOf p l = -1 := by
  induction l with
  | nil => rfl
  | cons y l ih =>
    have hy := h 0 y (by simp) rfl
    have := ih fun k z hk hz => h (k + 1) z (by simpa using hk) (by simpa using hz)
    simp [idxOf, hy, this]
theorem Since.less {X0 Y0 : XS} {w0 : World} (h : Since X0 w0 X w) (hs : ∀ k, Y0 k → X0 k) : Since Y0 w0 X w := ⟨h.kp.less hs, fun k hk => h.sub k (hs k hk), h.has⟩
theorem Own.row {e k lo : Nat} {v : Value} {rows : List (List Value)} (h : Own w X lo e k v rows) : (v = .slice none 0 0 ∧ rows = []) ∨
    ∃ g cap cs, v = .slice (some ⟨g, 0, none⟩) rows.length cap ∧ lo ≤ g ∧ RowIs w X g cs e ∧ rows.length ≤ cap ∧ cap ≤ maxLen ∧ cs.length = cap * k ∧ cs.take (rows.length * k) = rows.flatten := by
  obtain ⟨h1, h2, h3⟩ := h
  rcases h2.2 with ⟨rfl, hn⟩ | ⟨g, cap, cur, rfl, hb, hg, hnc, hcm, hcs, ht⟩
  · exact .inl ⟨rfl, List.eq_nil_of_length_eq_zero hn⟩
  · exact .inr ⟨g, cap, cur.toList, rfl, hb, ⟨h3 g rfl, by simpa using hg⟩, hnc, hcm, by simpa using hcs, ht⟩
theorem m_ixO {t : TypeId} {k g n cap : Nat} {z : Int} {i : Nat} {N : Value → Prop} (hz : z = i) (hi : i < n) (ht : P.underlying t = some (.slice (P.elem t))) (hs : (P.info? (P.elem t)).map (·.size) = some k) (h : N (ptr g (i * k))) :
    rdV P X w (ixS t k (.slice (some ⟨g, 0, none⟩) n cap) (.int .i64 z)) N := by
  subst hz
  refine rdV_pure (v := ptr g (i * k)) (fun wa => ?_) h
  show (Instr.indexAt t _ _).run P wa = _
  rw [run_indexAt_slice (h := ht), if_pos (by omega)]
  cases hq : P.info? (P.elem t) with
  | none => simp [hq] at hs
  | some inf =>
    have : inf.size = k := by simpa [hq] using hs
    simp [sizeOf, typeInfo, hq, this, addr_add]
theorem m_st1 {t sz b o : Nat} {cs : List Value} {ty : TypeId} {v : Value} {N : Value → World → XS → Prop} (h : RowIs w X b cs ty) (ht : (P.info? t).map (·.size) = some sz)
    (hl : o + sz ≤ cs.length) (hv : v.cells.size = sz) (h1 : v.cells.toList.all one = true) (hX : ∀ k, X k → k < w.heap.size)
    (n : ∀ w' X', Chg (fun k => k = b) X w X' w' → RowIs w' X' b (setL cs o v.cells.toList) ty → N undef w' X') : eU P R X w true (st1 t sz (ptr b o) v) N :=
  eU_store h ht hl hv h1 hX fun w' X' hg hr => n w' X' (hg.chg.mono fun k _ hk => by simpa using hk) hr
end Go.Eng
namespace Go.Eng
variable {P : Program}
def litOk (P : Program) (t e k : Nat) : Bool := match P.underlying t, P.info? e with
  | some (.slice e'), some i => e' == e && i.size == k && (match i.zero with | some z => z.cells.size == k | none => false) && decide (0 < k) && decide (k ≤ 2 ^ 20)
  | _, _ => false
theorem litOk_iff {t e k : Nat} (h : litOk P t e k = true) : P.underlying t = some (.slice e) ∧ 0 < k ∧ k ≤ 2 ^ 20 ∧ ∃ z : Value, (P.info? e).bind (fun i => i.zero.map fun z => (i.size, z)) = some (k, z) := by
  unfold litOk at h
  split at h
  · rename_i e' i hu hi
    simp only [Bool.and_eq_true, beq_iff_eq, decide_eq_true_eq] at h
    obtain ⟨⟨⟨⟨rfl, h2⟩, h4⟩, h5⟩, h6⟩ := h
    cases hz : i.zero with
    | none => simp [hz] at h4
    | some z => exact ⟨hu, h5, h6, z, by simp [hi, hz, h2]⟩
  · cases h
section
variable {w : World} {X : XS} {R : Ending → World → Prop} {t e k : Nat} {m : Bool} {N : Value → World → XS → Prop}
theorem m_bs1 {l : List Value} (hX : ∀ k, X k → k < w.heap.size) (he : litOk P t e k = true) (hk : (l.length == k) = true)
    (n : ∀ v w' X', Since X w X' w' → Own w' X' w.heap.size e k v [l] → N v w' X') : eV P R X w m (bsS t e k 1 #[(0, .agg l.toArray)]) N := by
  obtain ⟨hu, h0, h1, z, hz⟩ := litOk_iff he
  have hk' : l.length = k := by simpa using hk
  refine eV_slice (rows := [l]) l.toArray z hX hu hz (by omega) (by omega) ?_ (by simpa using hk') rfl (by simp) n
  simp only [Nat.one_mul]
  exact fill_one (x := .agg l.toArray) (by simpa [Value.cells] using hk') (by simp)
end
def isPtr (P : Program) (t : TypeId) : Bool := match P.underlying t with
  | some (.pointer _) => true
  | _ => false
theorem isPtr_iff {t : TypeId} (h : isPtr P t = true) : P.underlying t = some (.pointer (P.pointee t)) := by
  unfold isPtr at h
  split at h
  · rename_i e he; simp [Program.pointee, he]
  · cases h
section
variable {w : World} {X : XS} {N : Value → Prop} {t : TypeId} {xo yo : Operand}
theorem m_pnilF {a : Addr} (ht : isPtr P t = true) (k : N (.bool false)) : rdV P X w (binS .eql t xo yo (.pointer (some a)) (.pointer none)) N := rdV_pnil (p := some a) (isPtr_iff ht) k
theorem m_pnilT (ht : isPtr P t = true) (k : N (.bool true)) : rdV P X w (binS .eql t xo yo (.pointer none) (.pointer none)) N := rdV_pnil (p := none) (isPtr_iff ht) k
theorem m_pneF {a : Addr} (ht : isPtr P t = true) (k : N (.bool true)) : rdV P X w (binS .neq t xo yo (.pointer (some a)) (.pointer none)) N := by
  refine rdV_pure (fun wa => ?_) k
  have := run_neq_pointer_nil (P := P) (w := wa) t (some a) (isPtr_iff ht)
  simp [binS, eqGuard, this]
theorem m_pneT (ht : isPtr P t = true) (k : N (.bool false)) : rdV P X w (binS .neq t xo yo (.pointer none) (.pointer none)) N := by
  refine rdV_pure (fun wa => ?_) k
  have := run_neq_pointer_nil (P := P) (w := wa) t none (isPtr_iff ht)
  simp [binS, eqGuard, this]
end
end Go.Eng
namespace Go.Eng
variable {P : Program} {R : Ending → World → Prop} {X : XS} {w : World} {m : Bool}
section
variable {t ty e k bytes lo : Nat} {v x s : Value} {rows rows2 : List (List Value)} {row : List Value} {N : Value → World → XS → Prop}
theorem m_app1x (own : Own w X lo e k v rows) (hX : ∀ k, X k → k < w.heap.size) (hlo : lo ≤ w.heap.size) (he : elemOk P t e k bytes = true) (hx : x.cells.toList = row) (hk : (row.length == k) = true)
    (h1 : row.all one = true) (hb : (rows.length + 1) * bytes ≤ 140737488355328) (hl : rows.length + 1 ≤ 2 ^ 63 - 1)
    (n : ∀ v' w' X', Chg (blk v) X w X' w' → Own w' X' lo e k v' (rows ++ [row]) → (v'.ownBlock = v.ownBlock ∨ ∃ g, v'.ownBlock = some g ∧ w.heap.size ≤ g) → N v' w' X') :
    eV P R X w m (bsS t e k 1 #[(0, x)]) fun s w1 X1 => eV P R X1 w1 true (apS t e k bytes ty v s) N := by
  obtain ⟨hu, hk0, hk1, z, hi, hz, hzs⟩ := elemOk_iff he
  have hk' : row.length = k := by simpa using hk
  have hxs : x.cells.size = k := by rw [← hk', ← hx, Array.length_toList]
  refine eV_slice (rows := [row]) x.cells z hX hu hz (by omega) (by omega) ?_ (by simpa using hk') rfl (by simpa using hx) fun s w1 X1 hs1 hso => ?_
  · simp only [Nat.one_mul]
    exact fill_one hxs (by simp)
  · have hlo1 : lo ≤ w1.heap.size := Nat.le_trans hlo hs1.kp.size
    refine eV_append (rows2 := [row]) z hu hi hzs hk0 hs1.has hlo1 (own.since hs1) hso.sl (by simpa using h1) (by simpa using hb) (by simpa using hl) fun v2 w2 X2 hg ho hat => ?_
    refine n v2 w2 X2 ((Chg.of_since hs1 (blk v)).trans (hg.chg.mono fun k _ hk => hk.symm)) ho ?_
    rcases hat with h | ⟨g, h, hge⟩
    · exact .inl h
    · exact .inr ⟨g, h, Nat.le_trans hs1.kp.size hge⟩
end
def txt (s : ByteArray) : List Value := s.data.toList.map fun b => .int .u8 b.toNat
theorem len_txt (s : ByteArray) : (txt s).length = s.size := by unfold txt; rw [List.length_map, Array.length_toList]; rfl
theorem first_txt (s : ByteArray) : (Builtin.firstCells 1 s.size (.string s)) = (pure (txt s).toArray : Sem (Array Value)) := by
  have hx : (s.extract 0 s.size) = s := by
    apply ByteArray.ext
    simp [ByteArray.data_extract]
  show (pure ((s.extract 0 s.size).data.map fun b => Value.int .u8 b.toNat) : Sem (Array Value)) = _
  rw [hx]
  congr 1
  apply Array.ext'
  simp [txt]
theorem run_append_room_str (t u ty e : TypeId) (i : TypeInfo) (ht : P.underlying t = some (.slice e)) (hu : P.underlying u = some .string) (hi : P.info? e = some i) (h1 : i.size = 1)
    (g sLen sCap : Nat) (cur : Array Value) (hg : w.heap[g]? = some (.cells cur e (0, 0))) (s : ByteArray) (hroom : sLen + s.size ≤ sCap) (hfit : sLen + s.size ≤ cur.size) :
    (Builtin.append_ #[t, u] ty #[.slice (some ⟨g, 0, none⟩) sLen sCap, .string s]).run P w =
      .ok (.slice (some ⟨g, 0, none⟩) (sLen + s.size) sCap) (w.setRow g (cur.toList.take sLen ++ txt s ++ cur.toList.drop (sLen + s.size)).toArray) := by
  have hst := run_storeCells_at P g sLen e (txt s) 0 cur w hg (by rw [len_txt]; simpa using hfit) (fun v hv => by
    unfold txt at hv
    obtain ⟨b, _, rfl⟩ := List.mem_map.1 hv; rfl)
  simp only [Nat.add_zero, len_txt] at hst
  simp [Builtin.append_, run_underlying ht, run_underlying hu, sizeOf, typeInfo, hi, Builtin.lenOf, hroom, h1, first_txt, Addr.add_lit, hst]
theorem run_append_grow_str (t u ty e : TypeId) (i : TypeInfo) (z : Value) (ht : P.underlying t = some (.slice e)) (hu : P.underlying u = some .string) (hi : P.info? e = some i) (hz : i.zero = some z) (h1 : i.size = 1)
    (b : Addr) (sLen sCap : Nat) (olds : List Value) (hlo : olds.length = sLen) (holds : ∀ j v, olds[j]? = some v → w.cell? (b.add j) = some v) (s : ByteArray)
    (hg : sCap < sLen + s.size) (h63 : ((sLen + s.size : Nat) : Int) ≤ 9223372036854775807) (hfit : Builtin.nextslicecap (sLen + s.size) sCap * i.bytes ≤ 281474976710656) :
    (Builtin.append_ #[t, u] ty #[.slice (some b) sLen sCap, .string s]).run P w =
      .ok (.slice (some ⟨w.heap.size, 0, none⟩) (sLen + s.size) (grownCap w (sLen + s.size) sCap e))
        (w.drew.alloc (.cells (olds.toArray ++ (txt s).toArray ++ Builtin.zeroCells z.cells (grownCap w (sLen + s.size) sCap e - (sLen + s.size))) e)) := by
  have hn : ¬ (sLen + s.size ≤ sCap) := by omega
  have h63' : ¬ (9223372036854775807 < ((sLen : Int) + (s.size : Int))) := by omega
  have h48' : ¬ (281474976710656 < Builtin.nextslicecap (sLen + s.size) sCap * i.bytes) := by omega
  have hfo := run_firstCells_some (P := P) w.drew 1 sLen b sLen sCap olds (by omega) (by simpa using holds)
  simp [Builtin.append_, run_underlying ht, run_underlying hu, sizeOf, typeInfo, zeroValue, hi, hz, Builtin.lenOf, hn, h63', h48', Question.forced, first_txt, h1, hfo, newRow, grownCap]
  congr 2
  apply Array.ext'
  simp [List.append_assoc]
theorem run_append_own_str (base : Nat) (t u ty e : TypeId) (i : TypeInfo) (z : Value) (bytes : Nat) (ht : P.underlying t = some (.slice e)) (hu : P.underlying u = some .string) (hi : P.info? e = some i) (hz : i.zero = some z)
    (h1 : i.size = 1) (hby : i.bytes = bytes) (hzs : z.cells.size = 1) (v : Value) (n : Nat) (xs : List Value) (hown : w.ownsRow base e 1 v n xs) (s : ByteArray)
    (h63 : n + s.size ≤ maxLen) (hbytes : (n + s.size) * bytes ≤ 140737488355328) (hbase : base ≤ w.heap.size) :
    ∃ v' w', (Builtin.append_ #[t, u] ty #[v, .string s]).run P w = .ok v' w' ∧ w'.ownsRow base e 1 v' (n + s.size) (xs ++ txt s) ∧ w.grownBy w' v.ownBlock ∧ (v'.ownBlock = v.ownBlock ∨ v'.ownBlock = some w.heap.size) := by
  subst hby
  have hsmall : n + s.size ≤ 9223372036854775807 := by simp only [maxLen] at h63; omega
  have hl := len_txt s
  have hxl : xs.length = n := by simpa using hown.1
  have hlen : (xs ++ txt s).length = (n + s.size) * 1 := by rw [List.length_append, hxl, hl]; omega
  have grown : ∀ (old : Nat), old < n + s.size → ∀ (row : Option Nat),
      (w.drew.alloc (.cells (xs.toArray ++ (txt s).toArray ++ Builtin.zeroCells z.cells (grownCap w (n + s.size) old e - (n + s.size))) e)).ownsRow base e 1
        (.slice (some ⟨w.heap.size, 0, none⟩) (n + s.size) (grownCap w (n + s.size) old e)) (n + s.size) (xs ++ txt s) ∧
      w.grownBy (w.drew.alloc (.cells (xs.toArray ++ (txt s).toArray ++ Builtin.zeroCells z.cells (grownCap w (n + s.size) old e - (n + s.size))) e)) row := by
    intro old ho row
    have hge := grownCap_ge w (n + s.size) old e
    have hcm : grownCap w (n + s.size) old e ≤ maxLen := grownCap_le_maxLen w (n + s.size) old e h63
    refine ⟨⟨hlen, .inr ⟨w.heap.size, _, _, rfl, hbase, heap_alloc_new w.drew _, hge, hcm, ?_, ?_⟩⟩, ⟨rfl, rfl, rfl, by simp, fun k hk _ => by first | exact heap_alloc_old w.drew _ k hk | exact heap_alloc_old w.drew _ hk⟩⟩
    · simp only [Array.size_append, List.size_toArray, size_zeroCells, hzs, hxl, hl]
      omega
    · simp only [Array.toList_append, List.append_assoc]
      rw [← List.append_assoc, ← hlen]
      exact List.take_left
  rcases hown.2 with ⟨rfl, rfl⟩ | ⟨g, cap, cur, rfl, hbg, hg, hnc, hcm, hcs, htake⟩
  · have hx : xs = [] := List.eq_nil_of_length_eq_zero hxl
    subst hx
    by_cases hm : s.size = 0
    · have hn : txt s = [] := List.eq_nil_of_length_eq_zero (by rw [hl, hm])
      refine ⟨.slice none 0 0, w, ?_, by rw [hm, hn]; exact World.ownsRow_nil w base e 1, ⟨rfl, rfl, rfl, Nat.le_refl _, fun _ _ _ => rfl⟩, Or.inl rfl⟩
      have hf := first_txt s
      rw [hm, hn] at hf
      simp [Builtin.append_, run_underlying ht, run_underlying hu, sizeOf, typeInfo, hi, Builtin.lenOf, hm, h1, hf]
    · have hr := run_append_nil_string (P := P) w t u ty e i z ht hu hi hz s (by omega) (by omega) (by have hb := hbytes; simp only [Nat.zero_add] at hb; omega)
      have hgr := grown 0 (by omega) (Value.ownBlock (.slice none 0 0))
      have he : (s.data.map fun b : UInt8 => Value.int .u8 b.toNat) = (txt s).toArray := by
        apply Array.ext'; simp [txt]
      rw [he] at hr
      simp only [Nat.zero_add, List.nil_append, Array.empty_append] at hgr ⊢
      exact ⟨_, _, hr, hgr.1, hgr.2, Or.inr rfl⟩
  · rw [Nat.mul_one] at hcs htake
    by_cases hroom : n + s.size ≤ cap
    · have hfit : n + s.size ≤ cur.size := by rw [hcs]; exact hroom
      have hr := run_append_room_str (P := P) (w := w) t u ty e i ht hu hi h1 g n cap cur hg s hroom hfit
      refine ⟨_, _, hr, ⟨hlen, .inr ⟨g, cap, _, rfl, hbg, setRow_heap w g cur _ e _ hg, hroom, hcm, ?_, ?_⟩⟩, ⟨rfl, rfl, rfl, by simp, fun k _ hk => setRow_other w g k _ (fun e => hk (by simp [Value.ownBlock, e]))⟩, Or.inl rfl⟩
      · simp only [List.size_toArray, List.length_append, List.length_take, List.length_drop, Array.length_toList, hl]
        omega
      · rw [htake, ← hlen]
        exact List.take_left
    · have holds : ∀ j u, xs[j]? = some u → w.cell? ((⟨g, 0, none⟩ : Addr).add j) = some u := hown.cells (g := g) rfl
      have hr := run_append_grow_str (P := P) (w := w) t u ty e i z ht hu hi hz h1 ⟨g, 0, none⟩ n cap xs hxl holds s (by omega) (by omega) (growslice_fits (by omega) hbytes)
      have hgr := grown cap (by omega) (Value.ownBlock (.slice (some ⟨g, 0, none⟩) n cap))
      exact ⟨_, _, hr, hgr.1, hgr.2, Or.inr rfl⟩
theorem m_appT {t u ty e bytes lo : Nat} {v : Value} {s : ByteArray} {rows : List (List Value)} {N : Value → World → XS → Prop} (own : Own w X lo e 1 v rows) (hX : ∀ k, X k → k < w.heap.size) (hlo : lo ≤ w.heap.size)
    (he : elemOk P t e 1 bytes = true) (hu : P.underlying u = some .string) (hb : (rows.length + s.size) * bytes ≤ 140737488355328) (hl : rows.length + s.size ≤ 2 ^ 63 - 1)
    (n : ∀ v' w' X', Chg (blk v) X w X' w' → Own w' X' lo e 1 v' (rows ++ (txt s).map fun x => [x]) → (v'.ownBlock = v.ownBlock ∨ ∃ g, v'.ownBlock = some g ∧ w.heap.size ≤ g) → N v' w' X') :
    eV P R X w true (Builtin.append_ #[t, u] ty #[v, .string s]) N := by
  obtain ⟨ht, hk0, hk1, z, hi, hz, hzs⟩ := elemOk_iff he
  intro wa hk
  have own := own.kp hk
  cases hq : P.info? e with
  | none => simp [hq] at hi
  | some ie =>
    cases hzz : ie.zero with
    | none => simp [hq, hzz] at hi
    | some z' =>
      simp only [hq, hzz, Option.bind_some, Option.map_some, Option.some.injEq, Prod.mk.injEq] at hi
      obtain ⟨h1, rfl, rfl⟩ := hi
      unfold effW
      obtain ⟨v', w', hr, how, hg, hat⟩ := run_append_own_str (P := P) (w := wa) lo t u ty e ie z' ie.bytes ht hu hq hzz h1 rfl hzs v rows.length rows.flatten own.2.1 s hl hb (Nat.le_trans hlo hk.size)
      simp only [vS, Sem.run_bind, hr, Result.andThen_ok, Sem.run_pure]
      have hfl : ((txt s).map fun x => [x]).flatten = txt s := by
        induction txt s with
        | nil => rfl
        | cons a l ih => simp [ih]
      refine ⟨⟨hg.os, hg.tape, hg.output, hg.size, fun k hkl hnx => hg.block k hkl fun e => hnx (own.2.2 k e.symm)⟩, n _ _ _ ?_ ⟨?_, ?_, ?_⟩ ?_⟩
      · exact ⟨hg.os.trans hk.os, hg.tape.trans hk.tape, hg.output.trans hk.output, Nat.le_trans hk.size hg.size,
          fun k hx hne => (hg.block k (Nat.lt_of_lt_of_le (hX k hx) hk.size) fun e => hne e.symm).trans (hk.block k hx), fun k h => .inl h,
          fun k h => h.elim (fun h => Nat.lt_of_lt_of_le (hX k h) (Nat.le_trans hk.size hg.size)) (fun h => h.2)⟩
      · intro r hr
        rcases List.mem_append.1 hr with h | h
        · exact own.1 r h
        · obtain ⟨x, _, rfl⟩ := List.mem_map.1 h; rfl
      · rw [List.length_append, List.length_map, len_txt, List.flatten_append, hfl]; exact how
      · intro g hgg
        rcases hat with h | h
        · exact .inl (own.2.2 g (h ▸ hgg))
        · rw [hgg] at h; cases h
          exact .inr ⟨Nat.le_refl _, (how.lt _ hgg).2⟩
      · rcases hat with h | h
        · exact .inl h
        · exact .inr ⟨_, h, hk.size⟩
theorem m_fun1 {f : FuncId} {a b : Value} {N : Value → World → XS → Prop} (h : eC P R X w m f #[a, b] N) : eF P R X w m (.func (.func f) #[a] #[]) #[b] N := by
  have e : ∀ wa, (callV (.func (.func f) #[a] #[]) #[b]).run P wa = (callFunc f #[a, b]).run P wa := by
    intro wa
    simp [callV, Deferred.ofValue, invoke]
  intro wa hk
  have := h wa hk
  rw [e wa]; exact this
end Go.Eng
set_option linter.unusedVariables false
set_option linter.unusedSimpArgs false
namespace Go.Eng
variable {P : Program} {R : Ending → World → Prop} {X : XS} {w : World} {m : Bool}
def Ow (w : World) (X : XS) (e k : Nat) (v : Value) (rows : List (List Value)) : Prop :=
  (∀ r ∈ rows, r.length = k) ∧ ((v = .slice none 0 0 ∧ rows = []) ∨ ∃ g off cap cur, v = .slice (some ⟨g, off, none⟩) rows.length cap ∧ X g ∧ w.heap[g]? = some (.cells cur e (0, 0)) ∧
    rows.length ≤ cap ∧ cap ≤ maxLen ∧ off + cap * k ≤ cur.size ∧ (cur.toList.drop off).take (rows.length * k) = rows.flatten)
theorem Ow.nil (w : World) (X : XS) (e k : Nat) : Ow w X e k (.slice none 0 0) [] := ⟨by simp, .inl ⟨rfl, rfl⟩⟩
theorem Own.ow {lo e k : Nat} {v : Value} {rows : List (List Value)} (h : Own w X lo e k v rows) : Ow w X e k v rows := by
  obtain ⟨h1, h2, h3⟩ := h
  refine ⟨h1, ?_⟩
  rcases h2.2 with ⟨rfl, hn⟩ | ⟨g, cap, cur, rfl, hb, hg, hnc, hcm, hcs, ht⟩
  · exact .inl ⟨rfl, List.eq_nil_of_length_eq_zero hn⟩
  · exact .inr ⟨g, 0, cap, cur, rfl, h3 g rfl, hg, hnc, hcm, by omega, by rw [List.drop_zero]; exact ht⟩
theorem Ow.sl {e k : Nat} {v : Value} {rows : List (List Value)} (h : Ow w X e k v rows) : Sl w X k v rows := by
  obtain ⟨h1, ⟨rfl, rfl⟩ | ⟨g, off, cap, cur, rfl, hx, hg, hnc, hcm, hcs, ht⟩⟩ := h
  · exact Sl.nil w X k
  · have hm : cap ≤ 2 ^ 63 - 1 := hcm
    refine ⟨h1, Nat.le_trans hnc hm, _, cap, rfl, fun _ => ⟨g, off, rfl, hx, cur, e, (0, 0), hg, fun j v hj => ?_⟩, by simp, hnc, hm⟩
    rw [← ht, List.getElem?_take, List.getElem?_drop] at hj
    split at hj
    · simpa using hj
    · cases hj
theorem Ow.one {e k : Nat} {v : Value} {rows : List (List Value)} (h : Ow w X e k v rows) : one v = true := h.sl.one
theorem Ow.mono {e k : Nat} {v : Value} {rows : List (List Value)} {Y : XS} (h : Ow w X e k v rows) (hs : ∀ k, X k → Y k) : Ow w Y e k v rows := by
  obtain ⟨h1, h | ⟨g, off, cap, cur, hv, hx, hr⟩⟩ := h
  · exact ⟨h1, .inl h⟩
  · exact ⟨h1, .inr ⟨g, off, cap, cur, hv, hs _ hx, hr⟩⟩
theorem Ow.mv {e k : Nat} {v : Value} {rows : List (List Value)} {w' : World} {Y : XS} (h : Ow w X e k v rows) (m : Mv X w Y w') : Ow w' Y e k v rows := by
  obtain ⟨h1, h | ⟨g, off, cap, cur, hv, hx, hg, hr⟩⟩ := h
  · exact ⟨h1, .inl h⟩
  · obtain ⟨m1, m2⟩ := m g hx (Array.getElem?_eq_some_iff.1 hg).1
    exact ⟨h1, .inr ⟨g, off, cap, cur, hv, m1, by rw [m2]; exact hg, hr⟩⟩
theorem Ow.kp {e k : Nat} {v : Value} {rows : List (List Value)} {w' : World} (h : Ow w X e k v rows) (hk : Kp X w w') : Ow w' X e k v rows := by
  obtain ⟨h1, h | ⟨g, off, cap, cur, hv, hx, hg, hr⟩⟩ := h
  · exact ⟨h1, .inl h⟩
  · exact ⟨h1, .inr ⟨g, off, cap, cur, hv, hx, by rw [hk.block g hx]; exact hg, hr⟩⟩
theorem Ow.inX {e k : Nat} {v : Value} {rows : List (List Value)} (h : Ow w X e k v rows) {g : Nat} (hg : v.ownBlock = some g) : X g ∧ g < w.heap.size := by
  obtain ⟨h1, ⟨rfl, _⟩ | ⟨g', off, cap, cur, rfl, hx, hb, hr⟩⟩ := h
  · cases hg
  · simp only [Value.ownBlock, Option.some.injEq] at hg; subst hg
    exact ⟨hx, (Array.getElem?_eq_some_iff.1 hb).1⟩
theorem Ow.tag {e k : Nat} {v : Value} {rows : List (List Value)} (h : Ow w X e k v rows) {g : Nat} (hg : v.ownBlock = some g) : ∃ cs : List Value, w.heap[g]? = some (.cells cs.toArray e (0, 0)) := by
  obtain ⟨h1, ⟨rfl, _⟩ | ⟨g', off, cap, cur, rfl, hx, hb, hr⟩⟩ := h
  · cases hg
  · simp only [Value.ownBlock, Option.some.injEq] at hg; subst hg
    exact ⟨cur.toList, by simpa using hb⟩
theorem Ow.neRow {Y : XS} {e e' k g : Nat} {v : Value} {rows : List (List Value)} {cs : List Value} (h : Ow w X e k v rows) (hr : RowIs w Y g cs e') (he : decide (e ≠ e') = true) : v.ownBlock ≠ some g := fun hg => by
  obtain ⟨c, h1⟩ := h.tag hg
  rw [hr.2] at h1
  simp only [Option.some.injEq, Obj.cells.injEq] at h1
  exact of_decide_eq_true he h1.2.1.symm
theorem Ow.chg {F X' : XS} {w' : World} {e k : Nat} {v : Value} {rows : List (List Value)} (h : Ow w X e k v rows) (c : Chg F X w X' w') (hd : ∀ g, v.ownBlock = some g → ¬ F g) : Ow w' X' e k v rows := by
  obtain ⟨h1, h | ⟨g, off, cap, cur, rfl, hx, hg, hr⟩⟩ := h
  · exact ⟨h1, .inl h⟩
  · exact ⟨h1, .inr ⟨g, off, cap, cur, rfl, c.sub g hx, by rw [c.block g hx (hd g rfl)]; exact hg, hr⟩⟩
theorem Ow.tight {e k : Nat} {v : Value} {rows : List (List Value)} (h : Ow w X e k v rows) : Ow w (blk v) e k v rows := by
  obtain ⟨h1, h | ⟨g, off, cap, cur, rfl, hx, hr⟩⟩ := h
  · exact ⟨h1, .inl h⟩
  · exact ⟨h1, .inr ⟨g, off, cap, cur, rfl, rfl, hr⟩⟩
theorem run_append_roomO (t ty e : TypeId) (i : TypeInfo) (ht : P.underlying t = some (.slice e)) (hi : P.info? e = some i)
    (g off sLen sCap : Nat) (cur : Array Value) (hg : w.heap[g]? = some (.cells cur e (0, 0)))
    (a : Addr) (m c : Nat) (news : List Value) (hl : news.length = m * i.size) (hnews : ∀ j u, news[j]? = some u → w.cell? (a.add j) = some u) (h1 : ∀ u ∈ news, u.oneCell' = true)
    (hroom : sLen + m ≤ sCap) (hfit : off + sLen * i.size + news.length ≤ cur.size) :
    (Builtin.append_ #[t, t] ty #[.slice (some ⟨g, off, none⟩) sLen sCap, .slice (some a) m c]).run P w =
      .ok (.slice (some ⟨g, off, none⟩) (sLen + m) sCap) (w.setRow g (cur.toList.take (off + sLen * i.size) ++ news ++ cur.toList.drop (off + sLen * i.size + news.length)).toArray) := by
  have hf := run_firstCells_some (P := P) w i.size m a m c news hl hnews
  have hst := run_storeCells_at P g (off + sLen * i.size) e news 0 cur w hg (by simpa using hfit) h1
  simp only [Nat.add_zero] at hst
  simp [Builtin.append_, run_underlying ht, sizeOf, typeInfo, hi, Builtin.lenOf, hroom, hf, Addr.add_lit, hst]
theorem run_append_noneO (t ty e : TypeId) (i : TypeInfo) (ht : P.underlying t = some (.slice e)) (hi : P.info? e = some i)
    (b : Addr) (sLen sCap : Nat) (hroom : sLen ≤ sCap) :
    (Builtin.append_ #[t, t] ty #[.slice (some b) sLen sCap, .slice none 0 0]).run P w = .ok (.slice (some b) sLen sCap) w := by
  simp [Builtin.append_, run_underlying ht, sizeOf, typeInfo, hi, Builtin.lenOf, hroom, Builtin.firstCells, storeCells]
theorem eV_apO {t ty e k bytes : Nat} {v s : Value} {rows rows2 : List (List Value)} {N : Value → World → XS → Prop}
    (he : elemOk P t e k bytes = true)
    (hX : ∀ k, X k → k < w.heap.size) (own : Ow w X e k v rows) (src : Sl w X k s rows2) (h1 : ∀ r ∈ rows2, ∀ u ∈ r, one u = true)
    (hb : (rows.length + rows2.length) * bytes ≤ 140737488355328) (hl : rows.length + rows2.length ≤ 2 ^ 63 - 1)
    (n : ∀ v' w' X', Chg (blk v) X w X' w' → Ow w' X' e k v' (rows ++ rows2) → (v'.ownBlock = v.ownBlock ∨ ∃ g, v'.ownBlock = some g ∧ w.heap.size ≤ g) → N v' w' X') :
    eV P R X w true (apS t e k bytes ty v s) N := by
  obtain ⟨hu, hk0, hk1, z, hi, hz2, hzs⟩ := elemOk_iff he
  obtain ⟨hr1, ⟨rfl, rfl⟩ | ⟨g, off, cap, cur, rfl, hx, hg, hnc, hcm, hcs, htk⟩⟩ := own
  · exact eV_append (rows := []) (rows2 := rows2) z hu hi hzs hk0 hX (Nat.zero_le _) (Own.nil w X 0 e k) src h1 hb hl fun v2 w2 X2 hg ho hat =>
      n v2 w2 X2 (hg.chg.mono fun k _ hk => hk.symm) ho.ow hat
  · intro wa hk
    have hg' : wa.heap[g]? = some (.cells cur e (0, 0)) := by rw [hk.block g hx]; exact hg
    have src := src.kp hk
    cases hq : P.info? e with
    | none => simp [hq] at hi
    | some ie =>
      cases hzz : ie.zero with
      | none => simp [hq, hzz] at hi
      | some z' =>
        simp only [hq, hzz, Option.bind_some, Option.map_some, Option.some.injEq, Prod.mk.injEq] at hi
        obtain ⟨rfl, rfl, rfl⟩ := hi
        unfold apS effW
        rcases src.src with ⟨rfl, rfl⟩ | ⟨a, c, rfl, hcell⟩
        · have hr := run_append_noneO (P := P) (w := wa) t ty e ie hu hq ⟨g, off, none⟩ rows.length cap hnc
          simp only [vS, Sem.run_bind, hr, Result.andThen_ok, Sem.run_pure]
          have hx' := Ext.refl wa
          have hs := Since.of_ext hX hk hx'
          refine ⟨Step.of_ext hx', n _ _ _ (Chg.of_since hs _) ?_ (.inl rfl)⟩
          rw [List.append_nil]
          exact ⟨hr1, .inr ⟨g, off, cap, cur, rfl, .inl hx, hg', hnc, hcm, hcs, htk⟩⟩
        · have hlen2 : rows2.flatten.length = rows2.length * ie.size := flat_len src.1
          have hlen1 : rows.flatten.length = rows.length * ie.size := flat_len hr1
          have hone : ∀ u ∈ rows2.flatten, u.oneCell' = true := fun u hu => by
            obtain ⟨r, hr, hur⟩ := List.mem_flatten.1 hu
            rw [← one_eq]; exact h1 r hr u hur
          have hrows : ∀ r ∈ rows ++ rows2, r.length = ie.size := fun r hr => by
            rcases List.mem_append.1 hr with h | h
            · exact hr1 r h
            · exact src.1 r h
          have hsumm : rows.length + rows2.length ≤ maxLen := hl
          by_cases hroom : rows.length + rows2.length ≤ cap
          · have hmul : (rows.length + rows2.length) * ie.size ≤ cap * ie.size := Nat.mul_le_mul_right _ hroom
            rw [Nat.add_mul] at hmul
            have hr := run_append_roomO (P := P) (w := wa) t ty e ie hu hq g off rows.length cap cur hg' a rows2.length c rows2.flatten hlen2 hcell hone hroom (by omega)
            simp only [vS, Sem.run_bind, hr, Result.andThen_ok, Sem.run_pure]
            have hoth : ∀ k, k ≠ g → (wa.setRow g (cur.toList.take (off + rows.length * ie.size) ++ rows2.flatten ++ cur.toList.drop (off + rows.length * ie.size + rows2.flatten.length)).toArray).heap[k]? = wa.heap[k]? := fun k hk => setRow_other wa g k _ hk
            refine ⟨⟨rfl, rfl, rfl, by simp, fun k hkl hnx => hoth k fun e => hnx (e ▸ hx)⟩, n _ _ _ ?_ ⟨hrows, .inr ⟨g, off, cap, _, by rw [List.length_append], .inl hx, setRow_heap wa g cur _ e _ hg', by rw [List.length_append]; exact hroom, hcm, ?_, ?_⟩⟩ (.inl rfl)⟩
            · exact ⟨hk.os, hk.tape, hk.output, by simpa using hk.size, fun k hx' hne => (hoth k fun e => hne (by rw [e]; rfl)).trans (hk.block k hx'), fun k h => .inl h,
                fun k h => h.elim (fun h => by have := hX k h; have := hk.size; simp; omega) (fun h => h.2)⟩
            · simp only [List.size_toArray, List.length_append, List.length_take, List.length_drop, Array.length_toList]
              omega
            · have hsz : off ≤ cur.toList.length := by rw [Array.length_toList (xs := cur)]; omega
              have e1 : (cur.toList.take (off + rows.length * ie.size)).drop off = rows.flatten := by
                rw [List.drop_take, show off + rows.length * ie.size - off = rows.length * ie.size by omega, htk]
              have hl1 : (cur.toList.take (off + rows.length * ie.size)).length = off + rows.length * ie.size := by rw [List.length_take, Array.length_toList (xs := cur)]; omega
              rw [List.append_assoc, List.drop_append_of_le_length (by omega), e1, List.length_append, Nat.add_mul, List.flatten_append, ← List.append_assoc, ← hlen1, ← hlen2, ← List.length_append]
              exact List.take_left
          · have holds : ∀ j u, rows.flatten[j]? = some u → wa.cell? ((⟨g, off, none⟩ : Addr).add j) = some u := fun j u hj => by
              rw [← htk, List.getElem?_take, List.getElem?_drop] at hj
              split at hj
              · rw [Addr.add_lit]
                simp only [World.cell?, hg']
                simpa using hj
              · cases hj
            have hr := run_append_grow (P := P) wa t ty e ie z' hu hq hzz ⟨g, off, none⟩ rows.length cap rows.flatten hlen1 holds a rows2.length c rows2.flatten hlen2 hcell (by omega) (by simp only [maxLen] at hsumm; omega) (growslice_fits (by omega) hb)
            simp only [vS, Sem.run_bind, hr, Result.andThen_ok, Sem.run_pure]
            have hge := grownCap_ge wa (rows.length + rows2.length) cap e
            have hcm : grownCap wa (rows.length + rows2.length) cap e ≤ maxLen := grownCap_le_maxLen wa _ cap e hsumm
            have hblk : ∀ k, k < wa.heap.size → (wa.drew.alloc (.cells (rows.flatten.toArray ++ rows2.flatten.toArray ++ Builtin.zeroCells z'.cells (grownCap wa (rows.length + rows2.length) cap e - (rows.length + rows2.length))) e)).heap[k]? = wa.heap[k]? := fun k hk => heap_alloc_old wa.drew _ hk
            refine ⟨⟨rfl, rfl, rfl, by simp, fun k hkl _ => hblk k hkl⟩, n _ _ _ ?_ ⟨hrows, .inr ⟨wa.heap.size, 0, _, _, by rw [List.length_append], .inr ⟨Nat.le_refl _, by simp⟩, heap_alloc_new wa.drew _, by rw [List.length_append]; exact hge, hcm, ?_, ?_⟩⟩ (.inr ⟨_, rfl, hk.size⟩)⟩
            · exact ⟨hk.os, hk.tape, hk.output, by have := hk.size; simp; omega, fun k hx' _ => (hblk k (Nat.lt_of_lt_of_le (hX k hx') hk.size)).trans (hk.block k hx'), fun k h => .inl h,
                fun k h => h.elim (fun h => by have := hX k h; have := hk.size; simp; omega) (fun h => h.2)⟩
            · simp only [Array.size_append, List.size_toArray, size_zeroCells, hzs, hlen1, hlen2, ← Nat.add_mul]
              rw [Nat.zero_add]
              apply Nat.mul_le_mul_right
              omega
            · simp only [Array.toList_append, List.drop_zero, List.append_assoc, List.flatten_append]
              rw [← List.append_assoc, List.length_append, Nat.add_mul, ← hlen1, ← hlen2, ← List.length_append]
              exact List.take_left
section
variable {t ty e k bytes : Nat} {v x s : Value} {rows rows2 : List (List Value)} {row : List Value} {N : Value → World → XS → Prop}
theorem m_apO1 (own : Ow w X e k v rows) (hX : ∀ k, X k → k < w.heap.size) (he : elemOk P t e k bytes = true) (hx : x.cells.toList = row) (hk : (row.length == k) = true)
    (h1 : row.all one = true) (hb : (rows.length + 1) * bytes ≤ 140737488355328) (hl : rows.length + 1 ≤ 2 ^ 63 - 1)
    (n : ∀ v' w' X', Chg (blk v) X w X' w' → Ow w' X' e k v' (rows ++ [row]) → (v'.ownBlock = v.ownBlock ∨ ∃ g, v'.ownBlock = some g ∧ w.heap.size ≤ g) → N v' w' X') :
    eV P R X w m (bsS t e k 1 #[(0, x)]) fun s w1 X1 => eV P R X1 w1 true (apS t e k bytes ty v s) N := by
  obtain ⟨hu, hk0, hk1, z, hi, hz2, hzs⟩ := elemOk_iff he
  have hk' : row.length = k := by simpa using hk
  have hxs : x.cells.size = k := by rw [← hk', ← hx, Array.length_toList]
  refine eV_slice (rows := [row]) x.cells z hX hu hz2 (by omega) (by omega) ?_ (by simpa using hk') rfl (by simpa using hx) fun s w1 X1 hs1 hso => ?_
  · simp only [Nat.one_mul]
    exact fill_one hxs (by simp)
  · refine eV_apO (rows2 := [row]) he hs1.has (own.mv hs1.mv) hso.sl (by simpa using h1) (by simpa using hb) (by simpa using hl) fun v2 w2 X2 hg ho hat => ?_
    refine n v2 w2 X2 ((Chg.of_since hs1 (blk v)).trans hg) ho ?_
    rcases hat with h | ⟨g, h, hge⟩
    · exact .inl h
    · exact .inr ⟨g, h, Nat.le_trans hs1.kp.size hge⟩
end
theorem flat_drop {k : Nat} : ∀ {rows : List (List Value)} (i : Nat), (∀ r ∈ rows, r.length = k) → (rows.drop i).flatten = rows.flatten.drop (i * k)
  | _, 0, _ => by simp
  | [], i + 1, _ => by simp
  | r :: rows, i + 1, h => by
    have hr := h r (by simp)
    rw [List.drop_succ_cons, flat_drop i fun x hx => h x (List.mem_cons_of_mem _ hx), List.flatten_cons, Nat.succ_mul, Nat.add_comm, ← List.drop_drop, List.drop_left' hr]
theorem flat_take {k : Nat} : ∀ {rows : List (List Value)} (i : Nat), (∀ r ∈ rows, r.length = k) → (rows.take i).flatten = rows.flatten.take (i * k)
  | _, 0, _ => by simp
  | [], i + 1, _ => by simp
  | r :: rows, i + 1, h => by
    have hr := h r (by simp)
    have e1 : r.take (k + i * k) = r := List.take_of_length_le (by omega)
    rw [List.take_succ_cons, List.flatten_cons, flat_take i fun x hx => h x (List.mem_cons_of_mem _ hx), List.flatten_cons, Nat.succ_mul, Nat.add_comm, List.take_append, hr, e1, show k + i * k - k = i * k by omega]
theorem m_slLoO {t e k : Nat} {v : Value} {z : Int} {i : Nat} {rows : List (List Value)} {N : Value → Prop} (h : Ow w X e k v rows) (hz : z = i) (hi : i < rows.length) (ht : P.underlying t = some (.slice (P.elem t)))
    (hs : (P.info? (P.elem t)).map (·.size) = some k)
    (n : ∀ v', Ow w X e k v' (rows.drop i) → v'.ownBlock = v.ownBlock → N v') : rdV P X w (Instr.sliceAt t v (some (.int .i64 z)) none none) N := by
  subst hz
  obtain ⟨h1, ⟨rfl, rfl⟩ | ⟨g, off, cap, cur, rfl, hx, hg, hnc, hcm, hcs, htk⟩⟩ := h
  · simp at hi
  · have hq : ∃ inf, P.info? (P.elem t) = some inf ∧ inf.size = k := by
      cases hq : P.info? (P.elem t) with
      | none => simp [hq] at hs
      | some inf => exact ⟨inf, rfl, by simpa [hq] using hs⟩
    obtain ⟨inf, hq, hsz⟩ := hq
    have hrun : ∀ wa : World, (Instr.sliceAt t (.slice (some ⟨g, off, none⟩) rows.length cap) (some (.int .i64 (i : Int))) none none).run P wa = .ok (.slice (some ⟨g, off + i * k, none⟩) (rows.drop i).length (cap - i)) wa := fun wa => by
      rw [run_sliceAt_slice wa t _ _ _ _ ht, run_slice_l wa t _ _ cap ht .i64 i (by omega) (by omega)]
      have hne : ¬ cap = i := by omega
      simp [sizeOf, typeInfo, hq, hsz, sliced, Addr.add_lit, hne]
    refine rdV_pure hrun (n _ ⟨fun r hr => h1 r (List.mem_of_mem_drop hr), .inr ⟨g, off + i * k, cap - i, cur, rfl, hx, hg, by rw [List.length_drop]; omega, by omega, ?_, ?_⟩⟩ rfl)
    · have : i * k + (cap - i) * k = cap * k := by rw [← Nat.add_mul]; congr 1; omega
      omega
    · rw [flat_drop i h1, ← htk, List.drop_take, List.drop_drop, List.length_drop, Nat.sub_mul]
theorem MapR.neRow {κ α : Type} [DecidableEq κ] {A F : XS} {kv : κ → Value} {rd : World → XS → Value → α → Prop} {l : List (κ × α)} {b g : Nat} {cs : List Value} {e : TypeId} (h : MapR w X A b kv rd l) (hr : RowIs w F g cs e) : b ≠ g := by
  rintro rfl
  obtain ⟨es, c, h1, _⟩ := h
  have := h1.2.1
  rw [hr.2] at this; cases this
theorem RowIs.neRow {F : XS} {b g : Nat} {cs cs' : List Value} {e e' : TypeId} (h : RowIs w X b cs e) (hr : RowIs w F g cs' e') (he : decide (e ≠ e') = true) : b ≠ g := by
  rintro rfl
  have := h.2
  rw [hr.2] at this
  simp only [Option.some.injEq, Obj.cells.injEq] at this
  exact of_decide_eq_true he this.2.1.symm
theorem MapR.neOw {κ α : Type} [DecidableEq κ] {A F : XS} {kv : κ → Value} {rd : World → XS → Value → α → Prop} {l : List (κ × α)} {b e k : Nat} {v : Value} {rows : List (List Value)} (h : MapR w X A b kv rd l) (hr : Ow w F e k v rows) : v.ownBlock ≠ some b := fun hg => by
  obtain ⟨cs, h2⟩ := hr.tag hg
  obtain ⟨es, c, h1, _⟩ := h
  have := h1.2.1
  rw [h2] at this; cases this
section
variable {t : TypeId}
theorem m_alloc {l : List Value} {N : Value → World → XS → Prop} (hX : ∀ k, X k → k < w.heap.size) (hz : (P.info? t).bind (·.zero) = some (.agg l.toArray))
    (n : ∀ b w' X', w.heap.size ≤ b → Since X w X' w' → RowIs w' X' b l t → N (ptr b 0) w' X') : eV P R X w m (Instr.alloc t true (.tuple #[])) N := by
  intro wa hk
  unfold effW
  have hzv : ∀ w, (zeroValue t).run P w = .ok (.agg l.toArray) w := by
    intro w
    cases hi : P.info? t with
    | none => simp [hi] at hz
    | some inf =>
      have hz' : inf.zero = some (.agg l.toArray) := by simpa [hi] using hz
      simp [zeroValue, typeInfo, hi, hz']
  have hr : (Instr.alloc t true (.tuple #[])).run P wa = .ok (ptr wa.heap.size 0) (wa.alloc (.cells l.toArray t)) := by simp [Instr.alloc, hzv, newVar, newRow, Value.cells]
  simp only [vS, Sem.run_bind, hr, Result.andThen_ok, Sem.run_pure]
  have hx : Ext wa (wa.alloc (.cells l.toArray t)) := Ext.alloc _ _
  exact ⟨Step.of_ext hx, n _ _ _ hk.size (Since.of_ext hX hk hx) ⟨.inr ⟨Nat.le_refl _, by simp⟩, by simpa using heap_alloc_new wa _⟩⟩
theorem m_makeSl0 {e k bytes c : Nat} {z : Int} {N : Value → World → XS → Prop} (hX : ∀ k, X k → k < w.heap.size) (he : elemOk P t e k bytes = true) (hz : z = c) (hc : c ≤ 2 ^ 32) (hb : bytes ≤ 1024) (hk : k ≤ 1024)
    (n : ∀ v w' X', Since X w X' w' → Own w' X' w.heap.size e k v [] → N v w' X') : eV P R X w m (Instr.makeSlice t (I 0) (I z)) N := by
  subst hz
  obtain ⟨hu, hk0, hk1, z, hi, hz2, hzs⟩ := elemOk_iff he
  intro wa hk'
  unfold effW
  cases hq : P.info? e with
  | none => simp [hq] at hi
  | some ie =>
    cases hzz : ie.zero with
    | none => simp [hq, hzz] at hi
    | some z' =>
      simp only [hq, hzz, Option.bind_some, Option.map_some, Option.some.injEq, Prod.mk.injEq] at hi
      obtain ⟨h1, h2, h3⟩ := hi
      have hbb : ie.bytes * c ≤ 281474976710656 := by
        have := Nat.mul_le_mul (show ie.bytes ≤ 1024 by omega) hc
        omega
      obtain ⟨w', hr, how, hg⟩ := run_make_own (P := P) wa w.heap.size t e ie z' k hu hq hzz h1 .i64 .i64 c hbb (by simp only [maxLen]; omega) hk'.size
      have hr' : (Instr.makeSlice t (I 0) (I (c : Int))).run P wa = .ok (.slice (some ⟨wa.heap.size, 0, none⟩) 0 c) w' := hr
      simp only [vS, Sem.run_bind, hr', Result.andThen_ok, Sem.run_pure]
      have hx : Ext wa w' := ⟨hg.os, hg.tape, hg.output, hg.size, fun k hk _ => hg.block k hk (by simp)⟩
      refine ⟨Step.of_ext hx, n _ _ _ (Since.of_ext hX hk' hx) ⟨by simp, how, fun g hgg => ?_⟩⟩
      simp only [Value.ownBlock, Option.some.injEq] at hgg
      subst hgg
      exact .inr ⟨Nat.le_refl _, (how.lt _ rfl).2⟩
end
structure Ft (w0 : World) (F0 : XS) (w : World) (X F : XS) : Prop where
  s : Since (out F0 w0) w0 X w
  inX : ∀ k, F k → X k
  v : ∀ k, F k → F0 k ∨ w0.heap.size ≤ k
section
variable {w0 w' : World} {F0 F F' G X' A : XS} {Q : Value → World → World → Prop} {N : Value → World → XS → Prop} {f : FuncId} {args : Array Value}
theorem Ft.init (h : ∀ k, F0 k → k < w.heap.size) : Ft w F0 w (old w) F0 := ⟨Since.out _ _, h, fun _ h => .inl h⟩
theorem Ft.since (h : Ft w0 F0 w X F) (hs : Since X w X' w') : Ft w0 F0 w' X' F := ⟨h.s.trans hs, fun k hk => hs.sub k (h.inX k hk), h.v⟩
theorem Ft.no (h : Ft w0 F0 w X F) {k : Nat} (hk : F k) (h0 : out F0 w0 k) : False := by
  rcases h.v k hk with h1 | h1
  · exact h0.2 h1
  · have := h0.1; omega
theorem Ft.chg (h : Ft w0 F0 w X F) (c : Chg G X w X' w') (hG : ∀ k, G k → F k) (hF : ∀ k, F' k → F k ∨ (X' k ∧ w.heap.size ≤ k)) : Ft w0 F0 w' X' F' := by
  refine ⟨h.s.chg c fun k h0 hk => h.no (hG k hk) h0, fun k hk => ?_, fun k hk => ?_⟩
  · rcases hF k hk with h1 | h1
    · exact c.sub k (h.inX k h1)
    · exact h1.1
  · rcases hF k hk with h1 | h1
    · exact h.v k h1
    · right; have := h1.2; have := h.s.kp.size; omega
theorem Ft.less (h : Ft w0 F0 w X F) (hF : ∀ k, F' k → F k) : Ft w0 F0 w X F' := ⟨h.s, fun k hk => h.inX k (hF k hk), fun k hk => h.v k (hF k hk)⟩
theorem Ft.more (h : Ft w0 F0 w X F) (hF : ∀ k, F' k → F k ∨ (X k ∧ w0.heap.size ≤ k)) : Ft w0 F0 w X F' := by
  refine ⟨h.s, fun k hk => ?_, fun k hk => ?_⟩
  · rcases hF k hk with h1 | h1
    · exact h.inX k h1
    · exact h1.1
  · rcases hF k hk with h1 | h1
    · exact h.v k h1
    · exact .inr h1.2
theorem Ft.call (hT : Ft w0 F0 w X F) (h : Ct P f args w X G Q) (hf : enters P f = true) (hG : ∀ k, G k → F k)
    (k : ∀ v wa w' X', Q v wa w' → w.heap.size ≤ wa.heap.size → (∀ k, made wa w' k → X' k) → Ft w0 F0 w' X' (fun k => F k ∨ made wa w' k) → Chg G X w X' w' → N v w' X') : eC P R X w true f args N := by
  refine r_ct h hf hT.s.has (fun q hq => hT.inX q (hG q hq)) fun v wa w' X' hq hle hin hkp hc => k v wa w' X' hq hle hin ?_ hc
  exact hT.chg hc hG fun q hq => hq.imp id fun hm => ⟨hin q hm, Nat.le_trans hle hm.1⟩
theorem Ft.fin {v : Value} {Q : Value → World → Prop} (h : Ft w0 F0 w X F) (hq : ∀ wa, Kp X w wa → Q v wa) : fin (Ret F0 w0 Q) X w v := fin_ret h.s hq
theorem Ft.grew (h : Ft w0 F0 w X F) {wa : World} (hk : Kp X w wa) (hF : ∀ k, F' k → F k) : ∀ k, F' k → F0 k ∨ made w0 wa k := fun k hk' => by
  rcases h.v k (hF k hk') with h1 | h1
  · exact .inl h1
  · exact .inr ⟨h1, Nat.lt_of_lt_of_le (h.s.has k (h.inX k (hF k hk'))) hk.size⟩
theorem Ft.since0 (h : Ft w0 nX w X F) : Since (Eng.old w0) w0 X w :=
  ⟨⟨h.s.kp.os, h.s.kp.tape, h.s.kp.output, h.s.kp.size, fun k hk' => h.s.kp.block k ⟨hk', fun h => h.elim⟩⟩, fun k hk' => h.s.sub k ⟨hk', fun h => h.elim⟩, h.s.has⟩
def New (w0 : World) (X : XS) : XS := fun k => X k ∧ w0.heap.size ≤ k
theorem Ft.new (h : Ft w0 F0 w X F) : Ft w0 F0 w X (fun k => F k ∨ New w0 X k) := h.more fun k hk => hk.imp id fun h => h
theorem Ft.new0 (h : Ft w0 nX w X F) : Ft w0 nX w X (New w0 X) := h.more fun k hk => .inr hk
theorem Chg.mvA (c : Chg G X w X' w') (h : ∀ k, A k → X k ∧ ¬ G k) : Mv A w A w' := fun k hk _ => ⟨hk, c.block k (h k hk).1 (h k hk).2⟩
theorem Kp.mvA (hk : Kp X w w') (h : ∀ k, A k → X k) : Mv A w A w' := fun k hk' _ => ⟨hk', hk.block k (h k hk')⟩
theorem Since.mvF (hs : Since X w X' w') (h : ∀ k, A k → X k) : Mv A w A w' := fun k hk' _ => ⟨hk', hs.kp.block k (h k hk')⟩
end
theorem m_apN {w0 : World} {t ty e k bytes : Nat} {v s : Value} {rows rows2 : List (List Value)} {N : Value → World → XS → Prop} (hT : Ft w0 nX w X (New w0 X)) (hO : Ow w (New w0 X) e k v rows) (he : elemOk P t e k bytes = true)
    (src : Sl w X k s rows2) (h1 : ∀ r ∈ rows2, ∀ u ∈ r, one u = true) (hb : (rows.length + rows2.length) * bytes ≤ 140737488355328) (hl : rows.length + rows2.length ≤ 2 ^ 63 - 1)
    (n : ∀ v' w' X', Ft w0 nX w' X' (New w0 X') → Ow w' (New w0 X') e k v' (rows ++ rows2) → Chg (blk v) X w X' w' → (v'.ownBlock = v.ownBlock ∨ ∃ g, v'.ownBlock = some g ∧ w.heap.size ≤ g) → N v' w' X') :
    eV P R X w true (apS t e k bytes ty v s) N := by
  refine eV_apO he hT.s.has (hO.mono hT.inX) src h1 hb hl fun v' w' X' c ho hat => ?_
  have hT' : Ft w0 nX w' X' (New w0 X') := Ft.new0 (F := New w0 X) (hT.chg c (fun k hk => (hO.inX hk).1) fun k hk => .inl hk)
  refine n v' w' X' hT' (ho.tight.mono fun k hk => ⟨(ho.inX hk).1, ?_⟩) c hat
  have hk' : v'.ownBlock = some k := hk
  rcases hat with e | ⟨g, e, hge⟩
  · exact (hO.inX (e ▸ hk')).1.2
  · rw [hk'] at e
    have : k = g := Option.some.inj e
    have := hT.s.kp.size
    omega
def Dj (A B : XS) : Prop := ∀ k, A k → B k → False
theorem Dj.symm {A B : XS} (h : Dj A B) : Dj B A := fun k a b => h k b a
theorem Dj.grow {A B B' C : XS} (h : Dj A B) (hB : ∀ k, B' k → B k ∨ C k) (hc : Dj A C) : Dj A B' := fun k a b => (hB k b).elim (h k a) (hc k a)
theorem Dj.less {A A' B B' : XS} (h : Dj A B) (ha : ∀ k, A' k → A k) (hb : ∀ k, B' k → B k) : Dj A' B' := fun k a b => h k (ha k a) (hb k b)
end Go.Eng
set_option linter.unusedVariables false
set_option linter.unusedSimpArgs false
namespace Go.Eng
variable {P : Program} {R : Ending → World → Prop} {X : XS} {w : World} {m : Bool}
def RowF (w : World) (X : XS) (b : Nat) (cs : List Value) (ty : TypeId) : Prop := X b ∧ w.heap[b]? = some (.cells cs.toArray ty (cs.length, cs.length + 1))
theorem RowF.cells {b : Nat} {cs : List Value} {ty : TypeId} (h : RowF w X b cs ty) : Cells w X b 0 cs := ⟨h.1, _, _, _, h.2, fun j v hj => by simpa using hj⟩
theorem RowF.since {b : Nat} {cs : List Value} {ty : TypeId} {Y : XS} {w' : World} (h : RowF w X b cs ty) (hs : Since X w Y w') : RowF w' Y b cs ty := ⟨hs.sub _ h.1, by rw [hs.kp.block b h.1]; exact h.2⟩
theorem heap_freeze (wa : World) (g n : Nat) (cs : Array Value) (e : TypeId) (h : wa.heap[g]? = some (.cells cs e (0, 0))) : (wa.freeze ⟨g, n, none⟩ 1).heap = wa.heap.setIfInBounds g (.cells cs e (n, n + 1)) := by
  unfold World.freeze
  rw [if_neg (by decide)]
  obtain ⟨hl, he⟩ := Array.getElem?_eq_some_iff.1 h
  apply Array.ext
  · simp
  · intro i h1 h2
    simp only [Array.getElem_modify, Array.getElem_setIfInBounds]
    split
    · rename_i hi; subst hi; rw [he]; simp
    · rename_i hi; exact (Array.getElem_setIfInBounds_ne (by simpa using h2) hi).symm
theorem m_convC {t e g n c : Nat} {cs : List Value} {N : Value → World → XS → Prop} (h : RowIs w X g cs e) (ht : P.underlying t = some (.slice e)) (he : P.underlying e = some (.int .u8)) (hX : ∀ k, X k → k < w.heap.size)
    (k : ∀ w' X', Chg (· = g) X w X' w' → RowF w' X' g cs e → N (.slice (some ⟨g, 0, none⟩) n c) w' X') : eV P R X w true (convert t t (.slice (some ⟨g, 0, none⟩) n c)) N := by
  intro wa hk
  have hb := (h.kp hk).2
  have hlt := (Array.getElem?_eq_some_iff.1 hb).1
  have hsh : wa.shape? g = some (e, cs.length) := by unfold World.shape?; rw [hb]; simp
  have hr : (convert t t (.slice (some ⟨g, 0, none⟩) n c)).run P wa = .ok (.slice (some ⟨g, 0, none⟩) n c) (wa.freeze ⟨g, cs.length, none⟩ 1) := by
    simp [convert, run_underlying ht, run_underlying he, markStringish, hsh]
  have hh := heap_freeze wa g cs.length cs.toArray e hb
  unfold effW
  simp only [vS, Sem.run_bind, hr, Result.andThen_ok, Sem.run_pure]
  have hos : (wa.freeze ⟨g, cs.length, none⟩ 1).os = wa.os := by unfold World.freeze; rw [if_neg (by decide)]
  have htp : (wa.freeze ⟨g, cs.length, none⟩ 1).tape = wa.tape := by unfold World.freeze; rw [if_neg (by decide)]
  have hop : (wa.freeze ⟨g, cs.length, none⟩ 1).output = wa.output := by unfold World.freeze; rw [if_neg (by decide)]
  have hsz : (wa.freeze ⟨g, cs.length, none⟩ 1).heap.size = wa.heap.size := by rw [hh]; simp
  have hblk : ∀ q, q ≠ g → (wa.freeze ⟨g, cs.length, none⟩ 1).heap[q]? = wa.heap[q]? := fun q hq => by rw [hh, Array.getElem?_setIfInBounds, if_neg (Ne.symm hq)]
  refine ⟨⟨hos, htp, hop, by rw [hsz]; exact Nat.le_refl _, fun q _ hx => hblk q fun e => hx (e ▸ h.1)⟩, k _ _ ?_ ⟨.inl h.1, by rw [hh, Array.getElem?_setIfInBounds, if_pos rfl, if_pos hlt]⟩⟩
  refine ⟨hos.trans hk.os, htp.trans hk.tape, hop.trans hk.output, by rw [hsz]; exact hk.size, fun q hx hne => (hblk q hne).trans (hk.block q hx), fun q h => .inl h, fun q h => ?_⟩
  rw [hsz]
  exact h.elim (fun h => Nat.lt_of_lt_of_le (hX q h) hk.size) (fun h => by have := h.2; rwa [hsz] at this)
theorem m_stF {t b o : Nat} {cs : List Value} {ty : TypeId} {v : Value} {N : Value → World → XS → Prop} (h : RowF w X b cs ty) (ht : (P.info? t).map (·.size) = some 1)
    (hl : o < cs.length) (h1 : one v = true) (hX : ∀ k, X k → k < w.heap.size)
    (n : ∀ w' X', Chg (· = b) X w X' w' → RowF w' X' b (cs.set o v) ty → N undef w' X') : eU P R X w true (st1 t 1 (ptr b o) v) N := by
  intro wa hk
  have hb : wa.heap[b]? = some (.cells cs.toArray ty (cs.length, cs.length + 1)) := by rw [hk.block b h.1]; exact h.2
  have hlt := (Array.getElem?_eq_some_iff.1 hb).1
  have hv : v.cells = #[v] := one_cells h1
  have hcell : wa.cell? ⟨b, o, none⟩ = some cs[o] := by simp [World.cell?, hb, hl]
  have hfro : wa.frozen? ⟨b, o, none⟩ = false := by simp [World.frozen?, hb]; omega
  have hst : (store ⟨b, o, none⟩ v).run P wa = .ok () (wa.setRow b (cs.toArray.setIfInBounds o v)) := by
    rw [run_store P wa _ v _ (by rw [← one_eq]; exact h1), hcell]
    simp [hfro, setCell_eq_setRow wa b o cs.toArray ty _ v hb]
  have hr : (Instr.storeAt t (ptr b o) v).run P wa = .ok () (wa.setRow b (cs.toArray.setIfInBounds o v)) := by
    cases hi : P.info? t with
    | none => simp [hi] at ht
    | some i =>
      simp only [hi, Option.map_some, Option.some.injEq] at ht
      simp [Instr.storeAt, Instr.sureAddr, ptrV, storeVar, sizeOf, typeInfo, hi, ht, hv, storeCells, Addr.add_lit]
      simpa using hst
  unfold st1 effW
  simp only [uS, Sem.run_bind, hr, Result.andThen_ok, Sem.run_pure]
  have hsz : (wa.setRow b (cs.toArray.setIfInBounds o v)).heap.size = wa.heap.size := by simp
  refine ⟨⟨rfl, rfl, rfl, by rw [hsz]; exact Nat.le_refl _, fun k _ hx => setRow_other wa b k _ fun e => hx (e ▸ h.1)⟩, n _ _ ?_ ⟨.inl h.1, ?_⟩⟩
  · refine ⟨hk.os, hk.tape, hk.output, by rw [hsz]; exact hk.size, fun k hx hne => ?_, fun k h => .inl h, fun k h => ?_⟩
    · rw [setRow_other wa b k _ hne, hk.block k hx]
    · rw [hsz]
      exact h.elim (fun h => Nat.lt_of_lt_of_le (hX k h) hk.size) (fun h => by have := h.2; rwa [hsz] at this)
  · have := setRow_heap wa b cs.toArray (cs.toArray.setIfInBounds o v) ty _ hb
    rw [this, List.length_set]
    simp
def strB (l : List Nat) : ByteArray := ⟨(l.map UInt8.ofNat).toArray⟩
theorem strB_size (l : List Nat) : (strB l).size = l.length := by simp [strB, ByteArray.size]
theorem m_toStr {src dst e b o cap len : Nat} {l : List Nat} {N : Value → World → XS → Prop} (hlen : len = l.length) (hc : Cells w X b o (l.map fun x : Nat => Value.int .u8 x)) (hs : P.underlying src = some (.slice e)) (he : P.underlying e = some (.int .u8)) (hd : P.underlying dst = some .string)
    (hX : ∀ k, X k → k < w.heap.size) (n : ∀ w' X', Since X w X' w' → N (.string (strB l)) w' X') : eV P R X w m (convert src dst (.slice (some ⟨b, o, none⟩) len cap)) N := by
  subst hlen
  intro wa hk
  have hr := run_convert_bytes_arg (P := P) wa src e hs he b o l.length cap (l.map fun x : Nat => (x : Int)) (by simp) (fun i hi => by
    have := (hc.kp hk).range i (.int .u8 ((l[i] : Nat) : Int)) (by simp [hi])
    rw [this]; simp [List.getD, hi]) dst hd
  have e1 : strOfNums (l.map fun x : Nat => (x : Int)) = strB l := by
    unfold strOfNums strB
    simp
  rw [e1] at hr
  unfold effW
  simp only [vS, Sem.run_bind, hr, Result.andThen_ok, Sem.run_pure]
  have hx := Ext.refl wa
  exact ⟨Step.of_ext hx, n _ _ (Since.of_ext hX hk hx)⟩
theorem r_strAdd {t : TypeId} {a b : ByteArray} {N : Value → Prop} (h : a.size + b.size ≤ 2 ^ 62) (k : N (.string (a ++ b))) : rdV P X w (binOp .add t (.string a) (.string b)) N :=
  rdV_pure (fun wa => by
    have := run_string_add_sum (P := P) wa a b (by omega)
    simp [binOp, this]) k
theorem m_cpy {t e k bytes ty : Nat} {s : Value} {rows : List (List Value)} {m' : Bool} {N : Value → World → XS → Prop} (hX : ∀ k, X k → k < w.heap.size) (he : elemOk P t e k bytes = true) (src : Sl w X k s rows) (h1 : ∀ r ∈ rows, ∀ u ∈ r, one u = true)
    (hb : rows.length * bytes ≤ 140737488355328) (hl : rows.length ≤ 2 ^ 63 - 1)
    (n : ∀ v w' X', Since X w X' w' → Ow w' (New w X') e k v rows → N v w' X') : eV P R X w m (bsS t e k 0 #[]) fun a w1 X1 => eV P R X1 w1 m' (apS t e k bytes ty a s) N := by
  obtain ⟨hu, hk0, hk1, z, hi, hz2, hzs⟩ := elemOk_iff he
  cases hq : P.info? e with
  | none => simp [hq] at hi
  | some ie =>
    cases hzz : ie.zero with
    | none => simp [hq, hzz] at hi
    | some z' =>
      simp only [hq, hzz, Option.bind_some, Option.map_some, Option.some.injEq, Prod.mk.injEq] at hi
      obtain ⟨rfl, rfl, rfl⟩ := hi
      intro wa hk
      have hr : (Instr.buildSlice t 0 #[]).run P wa = .ok (.slice (some ⟨wa.heap.size, 0, none⟩) 0 0) (wa.alloc (.cells #[] e)) := by
        simp [Instr.buildSlice, run_underlying hu, sizeOf, typeInfo, hq, Instr.fill, newRow]
        have hz0 : ∀ f : Nat → Value, Array.map f (Array.range 0) = #[] := fun f => Array.eq_empty_of_size_eq_zero (by simp)
        rw [hz0]
      unfold bsS effW
      simp only [vS, Sem.run_bind, hr, Result.andThen_ok, Sem.run_pure]
      have hx : Ext wa (wa.alloc (.cells #[] e)) := Ext.alloc _ _
      have hs1 := Since.of_ext hX hk hx
      refine ⟨Step.of_ext hx, ?_⟩
      intro wb hkb
      unfold apS effW
      have src2 := (src.since hs1).kp hkb
      have hnew : wb.heap[wa.heap.size]? = some (.cells #[] e (0, 0)) := by
        rw [hkb.block _ (.inr ⟨Nat.le_refl _, by simp⟩)]
        exact heap_alloc_new wa _
      have hsz := hkb.size
      have hsz1 := hs1.kp.size
      have hlta := (Array.getElem?_eq_some_iff.1 hnew).1
      rcases src2.src with ⟨rfl, rfl⟩ | ⟨a, c, rfl, hcell⟩
      · have hr2 := run_append_noneO (P := P) (w := wb) t ty e ie hu hq ⟨wa.heap.size, 0, none⟩ 0 0 (Nat.le_refl _)
        simp only [vS, Sem.run_bind, hr2, Result.andThen_ok, Sem.run_pure]
        have hs2 := Since.of_ext hs1.has hkb (Ext.refl wb)
        exact ⟨Step.of_ext (Ext.refl _), n _ _ _ (hs1.trans hs2) ⟨by simp, .inr ⟨wa.heap.size, 0, 0, #[], rfl, ⟨.inl (.inr ⟨Nat.le_refl _, by simp⟩), hk.size⟩, hnew, Nat.le_refl _, Nat.zero_le _, by simp, by simp⟩⟩⟩
      · have hlen2 : rows.flatten.length = rows.length * ie.size := flat_len src.1
        by_cases h0 : rows = []
        · subst h0
          have hr2 := run_append_roomO (P := P) (w := wb) t ty e ie hu hq wa.heap.size 0 0 0 #[] hnew a 0 c [] (by simp) (by simp) (by simp) (Nat.le_refl _) (by simp)
          have e0 : wb.setRow wa.heap.size (#[].toList.take (0 + 0 * ie.size) ++ [] ++ #[].toList.drop (0 + 0 * ie.size + ([] : List Value).length)).toArray = wb := by
            have := setRow_self wb wa.heap.size #[] e (0, 0) hnew
            simpa using this
          rw [e0] at hr2
          have hr3 : (Builtin.append_ #[t, t] ty #[.slice (some ⟨wa.heap.size, 0, none⟩) 0 0, .slice (some a) ([] : List (List Value)).length c]).run P wb = .ok (.slice (some ⟨wa.heap.size, 0, none⟩) 0 0) wb := hr2
          simp only [vS, Sem.run_bind, hr3, Result.andThen_ok, Sem.run_pure]
          have hs2 := Since.of_ext hs1.has hkb (Ext.refl wb)
          exact ⟨Step.of_ext (Ext.refl _), n _ _ _ (hs1.trans hs2) ⟨by simp, .inr ⟨wa.heap.size, 0, 0, #[], rfl, ⟨.inl (.inr ⟨Nat.le_refl _, by simp⟩), hk.size⟩, hnew, Nat.le_refl _, Nat.zero_le _, by simp, by simp⟩⟩⟩
        · have hpos : 0 < rows.length := List.length_pos_iff.2 h0
          have hr2 := run_append_grow (P := P) wb t ty e ie z' hu hq hzz ⟨wa.heap.size, 0, none⟩ 0 0 [] (by simp) (by simp) a rows.length c rows.flatten hlen2 hcell (by omega) (by omega) (growslice_fits (by omega) (by simpa using hb))
          simp only [Nat.zero_add] at hr2
          simp only [vS, Sem.run_bind, hr2, Result.andThen_ok, Sem.run_pure]
          have hge := grownCap_ge wb rows.length 0 e
          have hcm : grownCap wb rows.length 0 e ≤ maxLen := grownCap_le_maxLen wb _ 0 e hl
          have hx2 : Ext wb (wb.drew.alloc (.cells ([].toArray ++ rows.flatten.toArray ++ Builtin.zeroCells z'.cells (grownCap wb rows.length 0 e - rows.length)) e)) := ⟨rfl, rfl, rfl, by simp, fun k hk _ => heap_alloc_old wb.drew _ hk⟩
          have hs2 := Since.of_ext hs1.has hkb hx2
          have hin : w.heap.size ≤ wb.heap.size := Nat.le_trans hsz1 hsz
          refine ⟨Step.of_ext hx2, n _ _ _ (hs1.trans hs2) ⟨src.1, .inr ⟨wb.heap.size, 0, _, _, rfl, ⟨.inr ⟨Nat.le_refl _, by simp⟩, hin⟩, heap_alloc_new wb.drew _, hge, hcm, ?_, ?_⟩⟩⟩
          · simp only [Array.size_append, List.size_toArray, size_zeroCells, hzs, hlen2, List.length_nil, Nat.zero_add, ← Nat.add_mul]
            apply Nat.mul_le_mul_right
            omega
          · simp only [Array.toList_append, List.drop_zero, List.nil_append]
            rw [← hlen2]
            exact List.take_left
theorem m_stC {t b o o' : Nat} {cs : List Value} {ty : TypeId} {v : Value} {N : Value → World → XS → Prop} (h : RowIs w X b cs ty) (hoo : o' = o) (ht : (P.info? t).map (·.size) = some 1)
    (hl : o < cs.length) (h1 : one v = true) (hX : ∀ k, X k → k < w.heap.size)
    (n : ∀ w' X', Chg (· = b) X w X' w' → RowIs w' X' b (setL cs o [v]) ty → N undef w' X') : eU P R X w true (st1 t 1 (ptr b o') v) N := by
  subst hoo
  have hv := one_cells h1
  refine m_st1 h ht (by omega) (by rw [hv]; rfl) (by rw [hv]; simp [h1]) hX fun w' X' c hr => n w' X' c ?_
  rw [hv] at hr
  exact hr
theorem m_stN {t sz b o o' : Nat} {cs : List Value} {ty : TypeId} {v : Value} {N : Value → World → XS → Prop} (h : RowIs w X b cs ty) (hoo : o' = o) (ht : (P.info? t).map (·.size) = some sz)
    (hl : o + sz ≤ cs.length) (hv : v.cells.size = sz) (h1 : v.cells.toList.all one = true) (hX : ∀ k, X k → k < w.heap.size)
    (n : ∀ w' X', Chg (· = b) X w X' w' → RowIs w' X' b (setL cs o v.cells.toList) ty → N undef w' X') : eU P R X w true (st1 t sz (ptr b o') v) N := by
  subst hoo
  exact m_st1 h ht hl hv h1 hX n
end Go.Eng
namespace Go.Eng
variable {P : Program}
theorem sim0 {pl : Plan} {fn : Func} {args : Array Value} {w : World} (hn : fn.ntmps = pl.n) (hargs : args.size ≤ pl.n) (hbox : (pl.boxes.all fun p => decide (args.size ≤ p.1)) = true) :
    Sim pl ⟨[], []⟩ .start (args0 args) (old w) w { tmps := args ++ Array.replicate (fn.ntmps - args.size) undef, defers := [] } w := by
  have hsize : (args ++ Array.replicate (fn.ntmps - args.size) undef).size = pl.n := by simp; omega
  have hget : ∀ s, s < pl.n → (args ++ Array.replicate (fn.ntmps - args.size) undef)[s]? = some (args0 args s) := by
    intro s hs
    rw [Array.getElem?_append]
    split
    · rename_i h1
      simp [args0, List.getD, h1]
    · rename_i h1
      rw [Array.getElem?_replicate, if_pos (by omega)]
      simp only [args0, List.getD]
      rw [List.getElem?_eq_none (by simpa using h1)]
      rfl
  have hnobox : ∀ b n, look pl.boxes b = some n → args0 args b = undef := by
    intro b n hb
    have h1 := List.all_eq_true.1 hbox _ (look_mem hb)
    simp only [decide_eq_true_eq] at h1
    simp only [args0, List.getD]
    rw [List.getElem?_eq_none (by simpa using h1)]
    rfl
  exact {
    size := hsize
    defers := rfl
    pin := fun _ hp => (by cases hp)
    ext := Kp.refl _ _
    xlt := fun _ hk => hk
    glob := fun s hs => hget s (isGlob_spec hs).1
    sig := fun _ hp => (by cases hp)
    box := fun b n hb cells hc => by rw [hnobox b n hb] at hc; cases hc
    inj := fun b b' n n' hb hb' h1 => by rw [hnobox b n hb] at h1; cases h1
    conv := fun b n hb k hk => by
      have h1 := List.all_eq_true.1 hbox _ (look_mem hb)
      simp only [decide_eq_true_eq] at h1
      rw [Array.getElem?_append, if_neg (by omega), Array.getElem?_replicate] at hk
      split at hk
      · cases hk
      · cases hk
    live := fun _ hp => (by cases hp)
    ptr := fun _ hp => (by cases hp) }
theorem Sim.defs {pl : Plan} {ds : Bk} {ds' : List Deferred} {cs : CS} {env : Env} {X : XS} {w0 w : World} {a : Act} (h : Sim pl ds cs env X w0 a w) : Sim pl ⟨ds', ds.pins⟩ cs env X w0 { a with defers := ds' } w :=
  ⟨h.size, rfl, h.pin, h.ext, h.xlt, h.glob, h.sig, h.box, h.inj, h.conv, h.live, h.ptr⟩
def ftE (P : Program) (pl : Plan) (fn : Func) : Option FT :=
  if fn.ntmps == pl.n then match fn.body with
    | some (.seq (.region _ ops0 false) (.seq (.region _ ops1 false) rest)) => match ops1.toList with
      | [mk, df] => match mk.op, mk.guard, mk.dst, df.op, df.guard, df.dst with
        | .makeFunc (.func _) ⟨[]⟩ _, none, some d', .defer ⟨.value (.tmp d), ⟨[]⟩, _⟩, none, none => match cSeq P pl ops0 ops0.toList .start, cCode P pl rest, cRes P pl fn.results.toList with
          | some t0, some t2, some (r, n) => if d' == d && decide (d < pl.n) && (look pl.boxes d).isNone && !pl.isGlob d then some ⟨.seq (.reg t0) t2, r, n⟩ else none
          | _, _, _ => none
        | _, _, _, _, _, _ => none
      | _ => none
    | _ => none
  else none
def defG (fn : Func) : Option FuncId := match fn.body with
  | some (.seq _ (.seq (.region _ ops1 _) _)) => match ops1.toList with
    | [mk, _] => match mk.op with
      | .makeFunc (.func g) _ _ => some g
      | _ => none
    | _ => none
  | _ => none
def Idle (P : Program) (g : FuncId) : Prop := enters P g = true ∧ ∀ caps w, CallsD P g caps .returning w fun e u' w' => (∃ x, e = .returned x) ∧ u' = .returning ∧ w' = w
theorem Sim.aside {pl : Plan} {ds : Bk} {env : Env} {X : XS} {w0 w : World} {a : Act} {d : Nat} {v : Value} (h : Sim pl ds .start env X w0 a w) (hd : d < pl.n) (hb : look pl.boxes d = none) (hg : pl.isGlob d = false) :
    Sim pl ds .start env X w0 (a.put (some d) v) w := by
  have ne : ∀ b n, look pl.boxes b = some n → b ≠ d := fun b n hb' e => by rw [e, hb] at hb'; cases hb'
  have hsz : d < a.tmps.size := by rw [h.size]; exact hd
  exact {
    size := by simp [Act.put, h.size]
    defers := h.defers
    pin := fun p hp => by
      obtain ⟨ht, h2⟩ := h.pin p hp
      refine ⟨?_, h2⟩
      have hne : p.1 ≠ d := fun e => by
        rcases h2 with ⟨n, _, hn, _⟩ | hg'
        · exact ne p.1 n hn e
        · rw [e, hg] at hg'; cases hg'
      rw [put_ne _ _ _ _ hne]; exact ht
    ext := h.ext
    xlt := h.xlt
    glob := fun s hs => by
      have hs' : s ≠ d := fun e => by rw [e, hg] at hs; cases hs
      rw [put_ne _ _ _ _ hs']; exact h.glob s hs
    sig := fun _ hp => (by cases hp)
    box := fun b n hb' cells hc => by
      obtain ⟨k, ty, h1, h2⟩ := h.box b n hb' cells hc
      exact ⟨k, ty, by rw [put_ne _ _ _ _ (ne b n hb')]; exact h1, h2⟩
    inj := fun b b' n n' h1 h2 h3 h4 k h5 h6 => h.inj b b' n n' h1 h2 h3 h4 k (by rwa [put_ne _ _ _ _ (ne b n h1)] at h5) (by rwa [put_ne _ _ _ _ (ne b' n' h2)] at h6)
    conv := fun b n hb' k hk => h.conv b n hb' k (by rwa [put_ne _ _ _ _ (ne b n hb')] at hk)
    live := fun _ hp => (by cases hp)
    ptr := fun _ hp => (by cases hp) }
def isSimple : TI → Bool
  | .box .. => true
  | .box1 .. => true
  | .need _ => true
  | .set .. => true
  | _ => false
def boxEnv : List TI → Env → Env
  | [], e => e
  | .box b _ x :: l, e => boxEnv l (upd e b (.agg (x.ev e).cells))
  | .box1 b x :: l, e => boxEnv l (upd e b (.agg #[x.ev e]))
  | .set d x :: l, e => boxEnv l (upd e d (x.ev e))
  | _ :: l, e => boxEnv l e
theorem denL_simple {pan : List PanicEntry → Env → World → XS → Prop} {next : Env → World → XS → Prop} {w : World} {X : XS} : ∀ (l : List TI) (env : Env), l.all isSimple = true → denL P pan next l env w X →
    denL P pan (fun e w' X' => e = boxEnv l env ∧ next e w' X') l env w X
  | [], env, _, h => ⟨rfl, h⟩
  | i :: l, env, hs, h => by
    rw [List.all_cons, Bool.and_eq_true] at hs
    obtain ⟨h1, h2⟩ := hs
    cases i with
    | box b n x => exact chk_iff.2 ⟨(chk_iff.1 h).1, denL_simple l _ h2 (chk_iff.1 h).2⟩
    | box1 b x => exact chk_iff.2 ⟨(chk_iff.1 h).1, denL_simple l _ h2 (chk_iff.1 h).2⟩
    | need b => exact chk_iff.2 ⟨(chk_iff.1 h).1, denL_simple l _ h2 (chk_iff.1 h).2⟩
    | set d x => exact denL_simple l _ h2 h
    | _ => cases h1
def capSlots : List Operand → Option (List Nat)
  | [] => some []
  | .tmp b :: l => (capSlots l).map (b :: ·)
  | _ :: _ => none
def one1 : Value → Option Value
  | .agg ⟨[v]⟩ => some v
  | _ => none
def nodupB : List Nat → Bool
  | [] => true
  | b :: l => !inL l b && nodupB l
def cap0 (P : Program) (pl : Plan) (fn : Func) (args : Array Value) : Option (FuncId × List Nat × List (Option Value)) :=
  match fn.body with
  | some (.seq (.region _ ops0 false) (.seq (.region _ ops1 false) rest)) => match ops1.toList with
    | [mk, _] => match mk.op with
      | .makeFunc (.func g) _ capsO => match capSlots capsO.toList, cSeq P pl ops0 ops0.toList .start, cCode P pl rest with
        | some cb, some t0, some t2 => if t0.all isSimple && nodupB cb && cb.all (fun b => (look pl.boxes b).isSome && isA (boxEnv t0 (args0 args) b) && !inL t2.mk b) then
            some (g, cb, cb.map fun b => if inL t2.wr b then none else one1 (boxEnv t0 (args0 args) b)) else none
        | _, _, _ => none
      | _ => none
    | _ => none
  | _ => none
theorem capSlots_eq : ∀ {l : List Operand} {cb : List Nat}, capSlots l = some cb → l = cb.map .tmp
  | [], cb, h => by simp only [capSlots, Option.some.injEq] at h; subst h; rfl
  | x :: l, cb, h => by
    cases x with
    | tmp b =>
      simp only [capSlots, Option.map_eq_some_iff] at h
      obtain ⟨c, h1, rfl⟩ := h
      rw [capSlots_eq h1]; rfl
    | const v => simp [capSlots] at h
    | global v => simp [capSlots] at h
    | func v => simp [capSlots] at h
theorem pick_ks {tmps : Array Value} : ∀ (cb : List Nat), (∀ b ∈ cb, ∃ k, tmps[b]? = some (ptrV k 0)) → ∃ ks : List Nat, ks.length = cb.length ∧ ∀ (i : Nat) b, cb[i]? = some b → ∃ k, ks[i]? = some k ∧ tmps[b]? = some (ptrV k 0)
  | [], _ => ⟨[], rfl, fun i b h => by simp at h⟩
  | b :: cb, h => by
    obtain ⟨k, hk⟩ := h b (by simp)
    obtain ⟨ks, h1, h2⟩ := pick_ks cb fun c hc => h c (List.mem_cons_of_mem _ hc)
    refine ⟨k :: ks, by simp [h1], fun i c hc => ?_⟩
    cases i with
    | zero => simp only [List.getElem?_cons_zero, Option.some.injEq] at hc; subst hc; exact ⟨k, rfl, hk⟩
    | succ i => simpa using h2 i c (by simpa using hc)
theorem nodupB_spec : ∀ {l : List Nat}, nodupB l = true → l.Nodup
  | [], _ => List.nodup_nil
  | b :: l, h => by
    simp only [nodupB, Bool.and_eq_true, Bool.not_eq_true'] at h
    exact List.nodup_cons.2 ⟨fun hm => by
      rw [inL_iff.2 hm] at h
      exact absurd h.1 (by simp), nodupB_spec h.2⟩
theorem zip_mem {α : Type} {cb : List Nat} {ks : List α} {p : Nat × α} (h : p ∈ cb.zip ks) : ∃ i : Nat, cb[i]? = some p.1 ∧ ks[i]? = some p.2 := by
  obtain ⟨i, hi, e⟩ := List.getElem_of_mem h
  refine ⟨i, ?_⟩
  have h2 : (cb.zip ks)[i]? = some p := by rw [List.getElem?_eq_getElem hi, e]
  rw [List.getElem?_zip_eq_some] at h2
  exact h2
def Takes (P : Program) (fn : Func) (R : Ending → World → Prop) (g : FuncId) (cb : List Nat) (cv : List (Option Value)) (RP : List PanicEntry → World → Prop) : Prop :=
  ∀ (ks : List Nat) (vals : List (Array Value)) ch w', ks.length = cb.length → vals.length = cb.length → ks.Nodup → (∀ (i : Nat) k cells, ks[i]? = some k → vals[i]? = some cells → ∃ ty, w'.heap[k]? = some (.cells cells ty (0, 0))) →
    (∀ (i : Nat) v cells, cv[i]? = some (some v) → vals[i]? = some cells → cells = #[v]) → RP ch w' →
    CallsD P g (ks.map fun k => ptrV k 0).toArray (.panicking ch) w' fun e u w'' => (∃ x, e = .returned x) ∧ settle u = .returning ∧ ∃ v, R (.returned v) w'' ∧
      ∀ tmps : Array Value, (∀ (i : Nat) b k, cb[i]? = some b → ks[i]? = some k → tmps[b]? = some (ptrV k 0)) → (results fn tmps).run P w'' = .ok v w''
def withP (R : Ending → World → Prop) (RP : List PanicEntry → World → Prop) : Ending → World → Prop
  | .panicked ch, w => RP ch w
  | e, w => R e w
theorem simple_safe {P : Program} {pan : List PanicEntry → Env → World → XS → Prop} {next : Env → World → XS → Prop} {w : World} {X : XS} : ∀ (l : List TI) (env : Env), l.all isSimple = true → denL P pan next l env w X →
    denL P (fun _ _ _ _ => False) next l env w X
  | [], env, _, h => h
  | i :: l, env, hs, h => by
    rw [List.all_cons, Bool.and_eq_true] at hs
    obtain ⟨h1, h2⟩ := hs
    cases i with
    | box b n x => exact chk_iff.2 ⟨(chk_iff.1 h).1, simple_safe l _ h2 (chk_iff.1 h).2⟩
    | box1 b x => exact chk_iff.2 ⟨(chk_iff.1 h).1, simple_safe l _ h2 (chk_iff.1 h).2⟩
    | need b => exact chk_iff.2 ⟨(chk_iff.1 h).1, simple_safe l _ h2 (chk_iff.1 h).2⟩
    | set d x => exact simple_safe l _ h2 h
    | _ => cases h1
theorem inj_nodup {l : List Nat} (h : ∀ (i j : Nat) k, l[i]? = some k → l[j]? = some k → i = j) : l.Nodup :=
  List.pairwise_iff_getElem.2 fun i j hi hj hij e => by
    have := h i j l[i] (List.getElem?_eq_getElem hi) (by rw [e]; exact List.getElem?_eq_getElem hj)
    omega
theorem calls_of_vcP {f : FuncId} {fn : Func} {pl : Plan} {args : Array Value} {w : World} {R : Ending → World → Prop} {RP : List PanicEntry → World → Prop} {g0 : FuncId} {cb : List Nat} {cv : List (Option Value)} {V : Prop} (hf : P.funcs[f]? = some fn)
    (hs : (decide (args.size ≤ pl.n) && pl.boxes.all fun p => decide (args.size ≤ p.1)) = true) (hno : ∀ g, defG fn = some g → Idle P g) (hcap : cap0 P pl fn args = some (g0, cb, cv)) (htk : Takes P fn R g0 cb cv RP) (hv : V = denO P (ftE P pl fn) (withP R RP) args w) (h : V) : Calls P f args w R := by
  subst hv
  unfold denO at h
  simp only [Bool.and_eq_true, decide_eq_true_eq] at hs
  split at h
  case h_2 => exact h.elim
  rename_i ft hc
  unfold ftE at hc
  split at hc
  case isFalse => cases hc
  rename_i hn
  have hn' : fn.ntmps = pl.n := by simpa using hn
  split at hc
  case h_2 => cases hc
  rename_i _ id0 ops0 id1 ops1 rest hb
  split at hc
  case h_2 => cases hc
  rename_i _ mk df hops
  split at hc
  case h_2 => cases hc
  rename_i _ _ _ _ _ _ g capsO d' d tys hmop hmg hmd hdop hdg hdd
  split at hc
  case h_2 => cases hc
  rename_i _ _ _ t0 t2 r nd hc0 hc2 hres
  split at hc
  case isFalse => cases hc
  rename_i hcond
  simp only [Bool.and_eq_true, beq_iff_eq, Bool.not_eq_true', decide_eq_true_eq, Option.isNone_iff_eq_none] at hcond
  obtain ⟨⟨⟨hd', hdn⟩, hdb⟩, hdgl⟩ := hcond
  subst hd'
  injection hc with hc
  subst hc
  have hG : defG fn = some g := by unfold defG; rw [hb]; simp [hops, hmop]
  obtain ⟨hent, hidle⟩ := hno g hG
  unfold cap0 at hcap
  rw [hb] at hcap
  dsimp only at hcap
  rw [hops] at hcap
  dsimp only at hcap
  rw [hmop] at hcap
  dsimp only at hcap
  rw [hc0, hc2] at hcap
  split at hcap
  case h_2 => cases hcap
  rename_i _ _ _ cb' t0' t2' hcs e0 e2
  cases e0; cases e2
  split at hcap
  case isFalse => cases hcap
  rename_i hcc
  simp only [Bool.and_eq_true, List.all_eq_true, Bool.not_eq_true'] at hcc
  obtain ⟨⟨hsimp, hnd⟩, hbox⟩ := hcc
  simp only [Option.some.injEq, Prod.mk.injEq] at hcap
  obtain ⟨rfl, rfl, rfl⟩ := hcap
  have hcapsO := capSlots_eq hcs
  have hsim := sim0 (w := w) hn' hs.1 (by simpa using hs.2)
  refine calls_of_wp_defers hf hb ?_
  let K := endK ⟨.seq (.reg t0) t2, r, nd⟩ (withP R RP)
  have h0 : denL P (fun ch => K (.panic ch)) (fun e w X => den P t2 K e w X) t0 (args0 args) w (old w) := h
  replace h0 := denL_simple t0 _ (List.all_eq_true.2 hsimp) h0
  have h0' : denL P (fun _ _ _ _ => False) (fun e w' X' => e = boxEnv t0 (args0 args) ∧ den P t2 K e w' X') t0 (args0 args) w (old w) := simple_safe t0 _ (List.all_eq_true.2 hsimp) h0
  refine wp_seq (wp_region_list (seq_ok (P := P) (pl := pl) (ds := ⟨[], []⟩) ?_ ?_ ops0.toList .start t0 _ _ _ _ _ hc0 (fun _ _ _ hp => by cases hp) hsim h0'))
  case refine_2 => exact fun ch a' w' env' X' w0' _ hk _ hq => hq.elim
  rintro cs1 a1 w1 env1 X1 w01 hs1 ⟨henv, hd1⟩
  replace hs1 := hs1.drop
  show (Code.seq (Code.region id1 ops1 false) rest).wp P (bodyPostD P fn R) a1 w1
  have hkb : ∀ b ∈ cb', (∃ n, look pl.boxes b = some n) ∧ ∃ k, a1.tmps[b]? = some (ptrV k 0) := fun b hb' => by
    have h1 := hbox b hb'
    obtain ⟨⟨h1, h2⟩, h3⟩ := h1
    obtain ⟨n, hn⟩ := Option.isSome_iff_exists.1 h1
    rw [← henv] at h2
    obtain ⟨cells, hcl⟩ := isA_iff.1 h2
    obtain ⟨k, ty, g1, _⟩ := hs1.box b n hn cells hcl
    exact ⟨⟨n, hn⟩, k, g1⟩
  obtain ⟨ks, hkl, hks⟩ := pick_ks cb' fun b hb' => (hkb b hb').2
  have hpins : ∀ p, p ∈ cb'.zip (ks.map fun k => ptrV k 0) → a1.tmps[p.1]? = some p.2 ∧ ((∃ n k, look pl.boxes p.1 = some n ∧ p.2 = ptrV k 0) ∨ pl.isGlob p.1 = true) := fun p hp => by
    obtain ⟨i, g1, g2⟩ := zip_mem hp
    obtain ⟨k, g3, g4⟩ := hks i p.1 g1
    rw [List.getElem?_map, g3] at g2
    simp only [Option.map_some, Option.some.injEq] at g2
    obtain ⟨⟨n, hn⟩, _⟩ := hkb p.1 (List.mem_of_getElem? g1)
    exact ⟨by rw [← g2]; exact g4, .inl ⟨n, k, hn, g2.symm⟩⟩
  have hknd : ks.Nodup := by
    have hcn := nodupB_spec hnd
    refine inj_nodup fun i j k hi hj => ?_
    have hil : i < cb'.length := by rw [← hkl]; exact (List.getElem?_eq_some_iff.1 hi).1
    have hjl : j < cb'.length := by rw [← hkl]; exact (List.getElem?_eq_some_iff.1 hj).1
    have gi : cb'[i]? = some cb'[i] := List.getElem?_eq_getElem hil
    have gj : cb'[j]? = some cb'[j] := List.getElem?_eq_getElem hjl
    obtain ⟨k1, e1, f1⟩ := hks i _ gi
    obtain ⟨k2, e2, f2⟩ := hks j _ gj
    rw [hi] at e1; cases e1
    rw [hj] at e2; cases e2
    obtain ⟨⟨m1, hm1⟩, _⟩ := hkb cb'[i] (List.getElem_mem hil)
    obtain ⟨⟨m2, hm2⟩, _⟩ := hkb cb'[j] (List.getElem_mem hjl)
    have := hs1.inj cb'[i] cb'[j] m1 m2 hm1 hm2 (hs1.conv _ _ hm1 _ f1) (hs1.conv _ _ hm2 _ f2) k f1 f2
    exact (List.getElem_inj hcn).1 this
  refine wp_seq (wp_region_list ?_)
  rw [hops]
  have hw1 : Region.wanted mk (yielded ops1 a1.tmps) = true := by simp [Region.wanted, hmg]
  have hcaps : capsO.map a1.eval = (ks.map fun k => ptrV k 0).toArray := by
    apply Array.ext'
    rw [Array.toList_map, hcapsO, List.map_map]
    refine List.ext_getElem? fun i => ?_
    rw [List.getElem?_map, List.getElem?_map]
    cases hci : cb'[i]? with
    | none =>
      have : ks[i]? = none := by rw [List.getElem?_eq_none_iff] at hci ⊢; omega
      rw [this]; rfl
    | some b =>
      obtain ⟨k, g1, g2⟩ := hks i b hci
      rw [g1]
      simp [Act.eval, Array.getD_eq_getD_getElem?, g2]
  have hrun1 : (execOp a1.eval mk).run P w1 = .ok (.value (.func (.func g) #[] (ks.map fun k => ptrV k 0).toArray)) w1 := by
    rw [← hcaps]
    simp [execOp, hmop, Instr.makeFunc]
  have hputs : ∀ b ∈ cb', b ≠ d' := fun b hb' e => by
    obtain ⟨⟨n, hn⟩, _⟩ := hkb b hb'
    rw [e, hdb] at hn; cases hn
  clear hcaps
  generalize hcg : (ks.map fun k => ptrV k 0).toArray = caps at hrun1
  unfold wpList
  rw [if_pos hw1]
  left
  unfold Oper.wp
  rw [hrun1, Oper.upon_value, hmd]
  have hs2 := hs1.aside (v := .func (.func g) #[] caps) hdn hdb hdgl
  have hev : (a1.put (some d') (.func (.func g) #[] caps)).eval (.tmp d') = .func (.func g) #[] caps := by
    have : d' < a1.tmps.size := by rw [hs1.size]; exact hdn
    simp [Act.eval, Act.put, Array.getD_eq_getD_getElem?, this]
  have hpins2 : ∀ p, p ∈ cb'.zip (ks.map fun k => ptrV k 0) → (a1.put (some d') (.func (.func g) #[] caps)).tmps[p.1]? = some p.2 ∧ ((∃ n k, look pl.boxes p.1 = some n ∧ p.2 = ptrV k 0) ∨ pl.isGlob p.1 = true) := fun p hp => by
    obtain ⟨g1, g2⟩ := hpins p hp
    obtain ⟨i, g3, _⟩ := zip_mem hp
    exact ⟨by rw [put_ne _ _ _ _ (hputs p.1 (List.mem_of_getElem? g3))]; exact g1, g2⟩
  generalize a1.put (some d') (.func (.func g) #[] caps) = a2 at hs2 hev hpins2
  have hrun : (execOp a2.eval df).run P w1 = .ok (.defer { target := .fn (.func g) caps, args := #[] }) w1 := by
    simp [execOp, hdop, resolve, hev, Deferred.ofValue]
  unfold wpList
  have hw : Region.wanted df (yielded ops1 a2.tmps) = true := by simp [Region.wanted, hdg]
  rw [if_pos hw]
  left
  unfold Oper.wp
  rw [hrun, Oper.upon_defer, hdd]
  show rest.wp P (bodyPostD P fn R) { a2 with defers := { target := .fn (.func g) caps, args := #[] } :: a2.defers } w1
  rw [hs2.defers]
  have hs3 : Sim pl ⟨[{ target := .fn (.func g) caps, args := #[] }], cb'.zip (ks.map fun k => ptrV k 0)⟩ .start env1 X1 w01 { a2 with defers := [{ target := .fn (.func g) caps, args := #[] }] } w1 :=
    ⟨hs2.size, rfl, hpins2, hs2.ext, hs2.xlt, hs2.glob, hs2.sig, hs2.box, hs2.inj, hs2.conv, hs2.live, hs2.ptr⟩
  have hd2 := den_frame t2 (K' := fun ex e w' X' => K ex e w' X' ∧ ∀ s, ¬ s ∈ t2.wr → e s = env1 s) hd1 fun ex e w' X' _ he hk => ⟨hk, he⟩
  refine wp_mono (code_ok (pl := pl) (ds := ⟨[{ target := .fn (.func g) caps, args := #[] }], cb'.zip (ks.map fun k => ptrV k 0)⟩) rest t2 _ env1 X1 w01 _ w1 hc2 (fun b hb' p hp e => ?_) hs3 hd2) fun ex a' w' hq => ?_
  · obtain ⟨i, g1, _⟩ := zip_mem hp
    have h1 := (hbox p.1 (List.mem_of_getElem? g1)).2
    rw [e, inL_iff.2 hb'] at h1
    cases h1
  have henter : ∀ w', (invoke (.fn (.func g) caps) #[]).run P w' = .ok (.enter g caps) w' := fun w' => by
    simp only [invoke]
    have := run_enters hent (#[] ++ caps) w'
    simpa using this
  have done : (∃ env X w0, Sim pl ⟨[{ target := .fn (.func g) caps, args := #[] }], cb'.zip (ks.map fun k => ptrV k 0)⟩ .start env X w0 a' w' ∧ K .ret env w0 X ∧ ∀ s, ¬ s ∈ t2.wr → env s = env1 s) → Leaves P fn a'.tmps R a'.defers .returning w' := by
    rintro ⟨e, X', w0', h5, h6, _⟩
    have h6' : chk (nd.all fun b => isA (e b)) (∀ wa, Kp X' w0' wa → R (.returned (resV r e)) wa) := h6
    obtain ⟨h7, h8⟩ := chk_iff.1 h6'
    rw [h5.defers]
    refine leaves_cons (by simp) (f := g) (args := caps) (henter w') ?_
    refine (hidle caps w').mono ?_
    rintro _ _ w'' ⟨⟨x, rfl⟩, rfl, rfl⟩
    exact ⟨_, res_run h5 hres (List.all_eq_true.1 h7), h8 w'' h5.ext⟩
  cases ex with
  | normal => exact done hq
  | ret => exact done hq
  | panic ch =>
    obtain ⟨h5, e, X', w0', h6, ⟨h7, he⟩, hpin⟩ := hq
    show Leaves P fn a'.tmps R a'.defers (.panicking ch) w'
    rw [h5]
    refine leaves_cons (by simp) (f := g) (args := caps) (henter w') ?_
    have hpk : ∀ (i : Nat) b k, cb'[i]? = some b → ks[i]? = some k → a'.tmps[b]? = some (ptrV k 0) ∧ ∃ n cells ty, look pl.boxes b = some n ∧ e b = .agg cells ∧ w'.heap[k]? = some (.cells cells ty (0, 0)) ∧ cells.size = n ∧ ¬ X' k := fun i b k g1 g2 =>
by
      obtain ⟨q1, q2⟩ := hpin (b, ptrV k 0) (List.mem_of_getElem? (i := i) (by rw [List.getElem?_zip_eq_some]; exact ⟨g1, by rw [List.getElem?_map, g2]; rfl⟩))
      refine ⟨q1, ?_⟩
      rcases q2 with q2 | ⟨n, k', cells, ty, q3, q4⟩
      · obtain ⟨⟨n, hn⟩, _⟩ := hkb b (List.mem_of_getElem? g1)
        rw [(isGlob_spec q2).2.1] at hn; cases hn
      · have : k = k' := by simpa [ptrV] using q3
        subst this
        exact ⟨n, cells, ty, q4⟩
    have hval : ∀ (i : Nat) b, cb'[i]? = some b → isA (e b) = true := fun i b g1 => by
      obtain ⟨k, g2, _⟩ := hks i b g1
      obtain ⟨_, _, cells, _, _, g4, _⟩ := hpk i b k g1 g2
      rw [g4]; rfl
    rw [← hcg]
    refine (htk ks (cb'.map fun b => (e b).cells) ch w' hkl (by simp) hknd (fun i k cells g1 g2 => ?_) (fun i v cells g1 g2 => ?_) (h7 w' h6)).mono ?_
    · rw [List.getElem?_map] at g2
      obtain ⟨b, g3, rfl⟩ := Option.map_eq_some_iff.1 g2
      obtain ⟨_, _, cells, ty, _, g4, g5, _⟩ := hpk i b k g3 g1
      rw [g4]
      exact ⟨ty, g5⟩
    · rw [List.getElem?_map] at g1 g2
      obtain ⟨b, g3, rfl⟩ := Option.map_eq_some_iff.1 g2
      rw [g3] at g1
      simp only [Option.map_some, Option.some.injEq] at g1
      split at g1
      · cases g1
      · rename_i hnw
        have hnw' : ¬ b ∈ t2.wr := fun hm => hnw (inL_iff.2 hm)
        rw [he b hnw', henv]
        generalize boxEnv t0 (args0 args) b = u at g1
        unfold one1 at g1
        split at g1
        · cases g1; rfl
        · cases g1
    · rintro e' u w'' ⟨⟨x, rfl⟩, hset, v, hR, hres'⟩
      show Leaves P fn a'.tmps R [] (settle u) w''
      rw [hset]
      exact ⟨v, hres' a'.tmps fun i b k g1 g2 => (hpk i b k g1 g2).1, hR⟩
  | exit i => obtain ⟨e, X', w0', h5, h6, _⟩ := hq; exact h6.elim
  | goto i => obtain ⟨e, X', w0', h5, h6, _⟩ := hq; exact h6.elim
  | outgrown => exact hq.elim
theorem calls_of_vcE {f : FuncId} {fn : Func} {pl : Plan} {args : Array Value} {w : World} {R : Ending → World → Prop} {V : Prop} (hf : P.funcs[f]? = some fn)
    (hs : (decide (args.size ≤ pl.n) && pl.boxes.all fun p => decide (args.size ≤ p.1)) = true) (hno : ∀ g, defG fn = some g → Idle P g) (hR : ∀ ch w, ¬ R (.panicked ch) w) (hv : V = denO P (ftE P pl fn) R args w) (h : V) : Calls P f args w R := by
  subst hv
  unfold denO at h
  simp only [Bool.and_eq_true, decide_eq_true_eq] at hs
  split at h
  case h_2 => exact h.elim
  rename_i ft hc
  unfold ftE at hc
  split at hc
  case isFalse => cases hc
  rename_i hn
  have hn' : fn.ntmps = pl.n := by simpa using hn
  split at hc
  case h_2 => cases hc
  rename_i _ id0 ops0 id1 ops1 rest hb
  split at hc
  case h_2 => cases hc
  rename_i _ mk df hops
  split at hc
  case h_2 => cases hc
  rename_i _ _ _ _ _ _ g capsO d' d tys hmop hmg hmd hdop hdg hdd
  split at hc
  case h_2 => cases hc
  rename_i _ _ _ t0 t2 r nd hc0 hc2 hres
  split at hc
  case isFalse => cases hc
  rename_i hcond
  simp only [Bool.and_eq_true, beq_iff_eq, Bool.not_eq_true', decide_eq_true_eq, Option.isNone_iff_eq_none] at hcond
  obtain ⟨⟨⟨hd', hdn⟩, hdb⟩, hdgl⟩ := hcond
  subst hd'
  injection hc with hc
  subst hc
  have hG : defG fn = some g := by unfold defG; rw [hb]; simp [hops, hmop]
  obtain ⟨hent, hidle⟩ := hno g hG
  have hsim := sim0 (w := w) hn' hs.1 (by simpa using hs.2)
  refine calls_of_wp_defers hf hb ?_
  let K := endK ⟨.seq (.reg t0) t2, r, nd⟩ R
  have hKp : ∀ ch env X w0 w', Kp X w0 w' → K (.panic ch) env w0 X → False := fun ch env X w0 w' hk hq => hR _ _ (hq w' hk)
  have h0 : denL P (fun ch => K (.panic ch)) (fun e w X => den P t2 K e w X) t0 (args0 args) w (old w) := h
  refine wp_seq (wp_region_list (seq_ok (P := P) (pl := pl) (ds := ⟨[], []⟩) ?_ ?_ ops0.toList .start t0 _ _ _ _ _ hc0 (fun _ _ _ hp => by cases hp) hsim h0))
  case refine_2 => exact fun ch a' w' env' X' w0' _ hk _ hq => (hKp _ _ _ _ _ hk hq).elim
  intro cs1 a1 w1 env1 X1 w01 hs1 hd1
  replace hs1 := hs1.drop
  show (Code.seq (Code.region id1 ops1 false) rest).wp P (bodyPostD P fn R) a1 w1
  refine wp_seq (wp_region_list ?_)
  rw [hops]
  have hw1 : Region.wanted mk (yielded ops1 a1.tmps) = true := by simp [Region.wanted, hmg]
  have hrun1 : (execOp a1.eval mk).run P w1 = .ok (.value (.func (.func g) #[] (capsO.map a1.eval))) w1 := by
    simp [execOp, hmop, Instr.makeFunc]
  generalize capsO.map a1.eval = caps at hrun1
  unfold wpList
  rw [if_pos hw1]
  left
  unfold Oper.wp
  rw [hrun1, Oper.upon_value, hmd]
  have hs2 := hs1.aside (v := .func (.func g) #[] caps) hdn hdb hdgl
  have hev : (a1.put (some d') (.func (.func g) #[] caps)).eval (.tmp d') = .func (.func g) #[] caps := by
    have : d' < a1.tmps.size := by rw [hs1.size]; exact hdn
    simp [Act.eval, Act.put, Array.getD_eq_getD_getElem?, this]
  generalize a1.put (some d') (.func (.func g) #[] caps) = a2 at hs2 hev
  have hrun : (execOp a2.eval df).run P w1 = .ok (.defer { target := .fn (.func g) caps, args := #[] }) w1 := by
    simp [execOp, hdop, resolve, hev, Deferred.ofValue]
  unfold wpList
  have hw : Region.wanted df (yielded ops1 a2.tmps) = true := by simp [Region.wanted, hdg]
  rw [if_pos hw]
  left
  unfold Oper.wp
  rw [hrun, Oper.upon_defer, hdd]
  show rest.wp P (bodyPostD P fn R) { a2 with defers := { target := .fn (.func g) caps, args := #[] } :: a2.defers } w1
  rw [hs2.defers]
  have hs3 := hs2.defs (ds' := [{ target := .fn (.func g) caps, args := #[] }])
  refine wp_mono (code_ok (pl := pl) (ds := ⟨[{ target := .fn (.func g) caps, args := #[] }], []⟩) rest t2 K env1 X1 w01 _ w1 hc2 (fun _ _ _ hp => by cases hp) hs3 hd1) fun ex a' w' hq => ?_
  have done : (∃ env X w0, Sim pl ⟨[{ target := .fn (.func g) caps, args := #[] }], []⟩ .start env X w0 a' w' ∧ K .ret env w0 X) → Leaves P fn a'.tmps R a'.defers .returning w' := by
    rintro ⟨e, X', w0', h5, h6⟩
    have h6' : chk (nd.all fun b => isA (e b)) (∀ wa, Kp X' w0' wa → R (.returned (resV r e)) wa) := h6
    obtain ⟨h7, h8⟩ := chk_iff.1 h6'
    rw [h5.defers]
    refine leaves_cons (by simp) (f := g) (args := caps) ?_ ?_
    · simp only [invoke]
      have := run_enters hent (#[] ++ caps) w'
      simpa using this
    · refine (hidle caps w').mono ?_
      rintro _ _ w'' ⟨⟨x, rfl⟩, rfl, rfl⟩
      exact ⟨_, res_run h5 hres (List.all_eq_true.1 h7), h8 w'' h5.ext⟩
  cases ex with
  | normal => exact done hq
  | ret => exact done hq
  | panic ch => obtain ⟨h5, e, X', w0', h6, h7, _⟩ := hq; exact (hKp _ _ _ _ _ h6 h7).elim
  | exit i => obtain ⟨e, X', w0', h5, h6⟩ := hq; exact h6.elim
  | goto i => obtain ⟨e, X', w0', h5, h6⟩ := hq; exact h6.elim
  | outgrown => exact hq.elim
end Go.Eng
namespace Go.Proofs.YtpdkoaklobnegaaGreat
open Go.Eng
set_option maxRecDepth 100000
noncomputable def pl_racelaw22_SinkGets : Plan := ⟨177, [(13, (Tryz.prog.cellsOf 51))], [], [0, 1, 4, 5, 6, 7, 8, 9, 10, 11, 12, 14, 16, 24, 28, 39, 43, 50, 51, 60, 91, 95, 138, 142, 149, 161, 175], [20, 21, 22, 23, 36, 37, 38, 75, 76, 77, 78, 79, 80, 81, 82, 83, 84, 85, 86, 87, 88, 89, 90, 100, 101, 102, 103, 104, 105, 106, 107, 108, 109, 110, 111, 112, 114, 115, 116, 117, 118, 119, 120, 121, 123, 124, 125, 126, 127, 128, 129, 130, 131, 132, 133, 134, 135, 136, 137], [8, 11, 12, 13, 14]⟩
def vc_racelaw22_SinkGets (R : Ending → World → Prop) (w0 : World) (X0 : XS) (p0 p1 : Value) : Prop :=
 (eC Tryz.prog R X0 w0 true 9 #[] fun a b c =>
 rdV Tryz.prog c b (Op.unary UnOp.not a) fun d =>
 (condW d
 (fin R c b (B false))
 ((eC Tryz.prog R c b true 22 #[p0] fun e g h =>
 rdV Tryz.prog h g (Op.unary UnOp.not e) fun i =>
 un (gSel i false p1) fun j =>
 jn (fun (k : Value) (l : World) (m : XS) =>
 grdW Tryz.prog m l i false (vS (binOp .gtr 3 k (I 2000))) fun n =>
 rdW Tryz.prog m l (pickN i (B true) n) fun o =>
 (condW o
 (eC Tryz.prog R m l true 9 #[] fun q r s =>
 (fin R s r q))
 ((eC Tryz.prog R m l true 11 #[] fun t v y =>
 (rdV Tryz.prog y v (binS .eql 26 (.tmp 27) (.const (.pointer none)) t (.pointer none)) fun z =>
 (condW z
 (fin R y v (B false))
 ((eC Tryz.prog R y v true 12 #[t, (I 4096), (I 3)] fun A C D =>
 rdV Tryz.prog D C (Instr.extract A 0) fun E =>
 rdV Tryz.prog D C (Instr.extract A 1) fun F =>
 (rdV Tryz.prog D C (binS .eql 28 (.tmp 34) (.const (.pointer none)) E (.pointer none)) fun G =>
 un (gSel G false F) fun H =>
 grdW Tryz.prog D C G false (vS (binS .neq 29 (.tmp 37) (.const (I 0)) H (I 0))) fun L =>
 rdW Tryz.prog D C (pickN G (B true) L) fun M =>
 (condW M
 (fin R D C (B false))
 (((lp1 D C (I 0) 8 fun N O Q S T =>
 rdV Tryz.prog T S (lnS 66 3 p0) fun U =>
 rdV Tryz.prog T S (binOp .lss 3 Q U) fun V =>
 (condW V
 ((rdV Tryz.prog T S (ixS 66 39 p0 Q) fun Y =>
 rdV Tryz.prog T S (fld 70 0 0 1 Y) fun Z =>
 rdV Tryz.prog T S (ld1 3 Z) fun a0 =>
 ((jn (fun (b0 : World) (c0 : XS) =>
 ((rdV Tryz.prog c0 b0 (binOp .add 3 Q (I 1)) fun d0 =>
 nx1 N O d0 b0 c0))) fun e0 =>
 rdV Tryz.prog T S (binS .eql 3 (.tmp 50) (.const (I 1)) a0 (I 1)) fun g0 =>
 (condW g0
 (rdV Tryz.prog T S (ixS 66 39 p0 Q) fun h0 =>
 rdV Tryz.prog T S (fld 70 2 2 36 h0) fun i0 =>
 rdV Tryz.prog T S (ldA 48 36 i0) fun j0 =>
 eC Tryz.prog R T S true 15 #[E, j0] fun _ k0 l0 =>
 (e0 k0 l0))
 (rdV Tryz.prog T S (binS .eql 3 (.tmp 50) (.const (I 2)) a0 (I 2)) fun m0 =>
 (condW m0
 (eC Tryz.prog R T S true 16 #[E] fun _ n0 o0 =>
 (e0 n0 o0))
 (e0 S T))))))))
 (((eC Tryz.prog R T S true 14 #[E] fun q0 r0 s0 =>
 (eC Tryz.prog R s0 r0 true 21 #[E] fun t0 v0 y0 =>
 (rdV Tryz.prog y0 v0 (lnS 63 3 t0) fun z0 =>
 eC Tryz.prog R y0 v0 true 24 #[t0, z0] fun A0 C0 D0 =>
 eC Tryz.prog R D0 C0 true 18 #[q0, A0] fun E0 F0 G0 =>
 rdV Tryz.prog G0 F0 (Op.unary UnOp.not E0) fun H0 =>
 un (gSel H0 false t0) fun L0 =>
 grdW Tryz.prog G0 F0 H0 false (vS (lnS 63 3 L0)) fun M0 =>
 grdW Tryz.prog G0 F0 H0 false (vS (binOp .gtr 3 M0 (I 0))) fun N0 =>
 un (gSel H0 false N0) fun O0 =>
 un (gSel O0 true t0) fun Q0 =>
 grdW Tryz.prog G0 F0 O0 true (vS (lnS 63 3 Q0)) fun S0 =>
 grdW Tryz.prog G0 F0 O0 true (vS (binOp .sub 3 S0 (I 1))) fun T0 =>
 grdW Tryz.prog G0 F0 O0 true (vS (ixS 63 7 Q0 T0)) fun U0 =>
 grdW Tryz.prog G0 F0 O0 true (vS (fld 73 1 3 3 U0)) fun V0 =>
 grdW Tryz.prog G0 F0 O0 true (vS (ldA 35 3 V0)) fun Y0 =>
 un (gSel O0 true E) fun Z0 =>
 jn (fun (a1 : Value) (b1 : World) (c1 : XS) =>
 grdW Tryz.prog c1 b1 O0 true (vS (binS .neq 35 (.tmp 86) (.tmp 88) Y0 a1)) fun d1 =>
 grdW Tryz.prog c1 b1 H0 false (pickN O0 d1 (B false)) fun e1 =>
 rdW Tryz.prog c1 b1 (pickN H0 (B true) e1) fun g1 =>
 (condW g1
 (fin R c1 b1 (B false))
 (((lp1 c1 b1 (I 0) 11 fun h1 i1 j1 k1 l1 =>
 rdV Tryz.prog l1 k1 (lnS 54 3 q0) fun m1 =>
 rdV Tryz.prog l1 k1 (binOp .lss 3 j1 m1) fun n1 =>
 (condW n1
 ((rdV Tryz.prog l1 k1 (binOp .gtr 3 j1 (I 0)) fun o1 =>
 un (gSel o1 true q0) fun q1 =>
 un (gSel o1 true j1) fun r1 =>
 grdW Tryz.prog l1 k1 o1 true (vS (ixS 54 4 q1 r1)) fun s1 =>
 grdW Tryz.prog l1 k1 o1 true (vS (fld 74 0 0 1 s1)) fun t1 =>
 grdW Tryz.prog l1 k1 o1 true (vS (ld1 9 t1)) fun v1 =>
 grdW Tryz.prog l1 k1 o1 true (vS (binOp .sub 3 r1 (I 1))) fun y1 =>
 grdW Tryz.prog l1 k1 o1 true (vS (ixS 54 4 q1 y1)) fun z1 =>
 grdW Tryz.prog l1 k1 o1 true (vS (fld 74 0 0 1 z1)) fun A1 =>
 grdW Tryz.prog l1 k1 o1 true (vS (ld1 9 A1)) fun C1 =>
 grdW Tryz.prog l1 k1 o1 true (vS (binOp .leq 9 v1 C1)) fun D1 =>
 rdW Tryz.prog l1 k1 (pickN o1 D1 (B false)) fun E1 =>
 un (gSel E1 false q0) fun F1 =>
 un (gSel E1 false j1) fun G1 =>
 grdW Tryz.prog l1 k1 E1 false (vS (ixS 54 4 F1 G1)) fun H1 =>
 grdW Tryz.prog l1 k1 E1 false (vS (fld 74 1 1 3 H1)) fun L1 =>
 grdW Tryz.prog l1 k1 E1 false (vS (fld 51 0 0 1 L1)) fun M1 =>
 grdW Tryz.prog l1 k1 E1 false (vS (ld1 3 M1)) fun N1 =>
 grdW Tryz.prog l1 k1 E1 false (vS (binS .eql 3 (.tmp 120) (.const (I 0)) N1 (I 0))) fun O1 =>
 rdW Tryz.prog l1 k1 (pickN E1 (B true) O1) fun Q1 =>
 un (gSel Q1 false E) fun S1 =>
 un (gSel Q1 false q0) fun T1 =>
 un (gSel Q1 false j1) fun U1 =>
 grdW Tryz.prog l1 k1 Q1 false (vS (ixS 54 4 T1 U1)) fun V1 =>
 grdW Tryz.prog l1 k1 Q1 false (vS (fld 74 0 0 1 V1)) fun Y1 =>
 grdW Tryz.prog l1 k1 Q1 false (vS (ld1 9 Y1)) fun Z1 =>
 grdW Tryz.prog l1 k1 Q1 false (vS (ixS 54 4 T1 U1)) fun a2 =>
 grdW Tryz.prog l1 k1 Q1 false (vS (fld 74 1 1 3 a2)) fun b2 =>
 grdW Tryz.prog l1 k1 Q1 false (vS (ldA 51 3 b2)) fun c2 =>
 jn (fun (d2 : Value) (e2 : World) (g2 : XS) =>
 jn (fun (h2 : Value) (i2 : World) (j2 : XS) =>
 grdW Tryz.prog j2 i2 Q1 false (vS (Op.unary UnOp.not h2)) fun k2 =>
 rdW Tryz.prog j2 i2 (pickN Q1 (B true) k2) fun l2 =>
 (condW l2
 (fin R j2 i2 (B false))
 (((rdV Tryz.prog j2 i2 (binOp .add 3 j1 (I 1)) fun m2 =>
 nx1 h1 i1 m2 i2 j2))))) fun n2 =>
 (gE Q1 false (eC Tryz.prog R g2 e2 true 25 #[d2, c2] n2) (n2 undef e2 g2))) fun o2 =>
 (gE Q1 false (eC Tryz.prog R l1 k1 false 26 #[S1, Z1] o2) (o2 undef k1 l1))))
 ((((lp3 l1 k1 (I 0) undef undef 12 14 13 fun q2 r2 s2 _ _ t2 v2 =>
 rdV Tryz.prog v2 t2 (lnS 36 3 p1) fun y2 =>
 rdV Tryz.prog v2 t2 (binOp .lss 3 s2 y2) fun z2 =>
 (condW z2
 ((rdV Tryz.prog v2 t2 (bld 51 #[(I 0), (.float .f64 0), (.string ⟨#[]⟩)] #[]) fun A2 =>
 un (Value.agg (Value.cells A2)) fun C2 =>
 chk (List.length (Array.toList (Value.cells A2)) == 3) (chk (List.all (Array.toList (Value.cells A2)) one) (((lp2 v2 t2 (I 0) C2 14 13 fun D2 E2 F2 G2 H2 L2 =>
 rdV Tryz.prog L2 H2 (lnS 54 3 q0) fun M2 =>
 rdV Tryz.prog L2 H2 (binOp .lss 3 F2 M2) fun N2 =>
 (condW N2
 (((jn (fun (O2 : Value) =>
 (rdV Tryz.prog L2 H2 (binOp .add 3 F2 (I 1)) fun Q2 =>
 nx2 D2 E2 Q2 O2 H2 L2)) fun S2 =>
 rdV Tryz.prog L2 H2 (ixS 54 4 q0 F2) fun T2 =>
 rdV Tryz.prog L2 H2 (fld 74 0 0 1 T2) fun U2 =>
 rdV Tryz.prog L2 H2 (ld1 9 U2) fun V2 =>
 rdV Tryz.prog L2 H2 (ixS 36 1 p1 s2) fun Y2 =>
 rdV Tryz.prog L2 H2 (ld1 9 Y2) fun Z2 =>
 rdV Tryz.prog L2 H2 (binS .eql 9 (.tmp 156) (.tmp 160) V2 Z2) fun a3 =>
 (condW a3
 (rdV Tryz.prog L2 H2 (ixS 54 4 q0 F2) fun b3 =>
 rdV Tryz.prog L2 H2 (fld 74 1 1 3 b3) fun c3 =>
 rdV Tryz.prog L2 H2 (ldA 51 3 c3) fun d3 =>
 chk (isA G2) (un (Value.agg (Value.cells d3)) fun e3 =>
 chk (List.length (Array.toList (Value.cells d3)) == 3) (chk (List.all (Array.toList (Value.cells d3)) one) (S2 e3))))
 (S2 G2)))))
 (((rdV Tryz.prog L2 H2 (ixS 36 1 p1 s2) fun g3 =>
 rdV Tryz.prog L2 H2 (ld1 9 g3) fun h3 =>
 chk (isA G2) (eC Tryz.prog R L2 H2 true 26 #[E, h3] fun i3 j3 k3 =>
 un (subOf G2 0 3) fun l3 =>
 eC Tryz.prog R k3 j3 true 25 #[i3, l3] fun m3 n3 o3 =>
 rdV Tryz.prog o3 n3 (Op.unary UnOp.not m3) fun q3 =>
 (condW q3
 (fin R o3 n3 (B false))
 (((rdV Tryz.prog o3 n3 (binOp .add 3 s2 (I 1)) fun r3 =>
 nx3 q2 r2 r3 F2 G2 n3 o3)))))))))))))))
 (eC Tryz.prog R v2 t2 true 9 #[] fun s3 t3 v3 =>
 (fin R v3 t3 s3))))))))))))) fun y3 =>
 (gE O0 true (eC Tryz.prog R G0 F0 false 19 #[Z0] y3) (y3 undef F0 G0))))))))))))))))))))) fun z3 =>
 (gE i false (eC Tryz.prog R h g true 23 #[j, (I 2000)] z3) (z3 undef g h))))))
theorem ok_racelaw22_SinkGets {R : Ending → World → Prop} {w0 : World} {p0 p1 : Value} (h : vc_racelaw22_SinkGets R w0 (old w0) p0 p1) : Calls Tryz.prog 4 #[p0, p1] w0 R :=
  calls_of_vc (pl := pl_racelaw22_SinkGets) Tryz.func4 (by kernel_rfl) (by kernel_rfl) h
noncomputable def pl_racelaw22_first : Plan := ⟨94, [], [], [0, 1, 2, 3, 4, 5, 6, 7, 8, 11, 22], [19, 20, 21, 39, 40, 41, 43, 44, 45, 46, 48, 49, 50, 51, 52, 53, 55, 56, 57, 58, 59, 60, 61, 63, 64, 65, 66, 68, 69, 70, 71, 72, 73, 74, 76, 77, 78, 79, 81, 82, 83, 84, 85, 86, 88, 89, 90, 91, 92], []⟩
def vc_racelaw22_first (R : Ending → World → Prop) (w0 : World) (X0 : XS) : Prop :=
 (eC Tryz.prog R X0 w0 true 11 #[] fun a b c =>
 (rdV Tryz.prog c b (binS .eql 26 (.tmp 10) (.const (.pointer none)) a (.pointer none)) fun d =>
 (condW d
 (fin R c b (B false))
 ((eC Tryz.prog R c b true 12 #[a, (I 4096), (I 0)] fun e g h =>
 rdV Tryz.prog h g (Instr.extract e 0) fun i =>
 rdV Tryz.prog h g (Instr.extract e 1) fun j =>
 (rdV Tryz.prog h g (binS .eql 28 (.tmp 17) (.const (.pointer none)) i (.pointer none)) fun k =>
 un (gSel k false j) fun l =>
 grdW Tryz.prog h g k false (vS (binS .neq 29 (.tmp 20) (.const (I 0)) l (I 0))) fun m =>
 rdW Tryz.prog h g (pickN k (B true) m) fun n =>
 (condW n
 (fin R h g (B false))
 ((eC Tryz.prog R h g true 13 #[(I 0), (I 5), (.string { data := #[97] })] fun o q r =>
 eC Tryz.prog R r q true 15 #[i, o] fun s t v =>
 rdV Tryz.prog v t (Instr.extract s 0) fun y =>
 rdV Tryz.prog v t (Instr.extract s 1) fun z =>
 (eC Tryz.prog R v t true 13 #[(I 4), (I 7), (.string { data := #[98] })] fun A C D =>
 eC Tryz.prog R D C true 15 #[i, A] fun E F G =>
 rdV Tryz.prog G F (Instr.extract E 0) fun H =>
 rdV Tryz.prog G F (Instr.extract E 1) fun L =>
 (eC Tryz.prog R G F true 14 #[i] fun M N O =>
 (rdV Tryz.prog O N (binS .eql 29 (.tmp 37) (.const (I 0)) z (I 0)) fun Q =>
 un (gSel Q true L) fun S =>
 grdW Tryz.prog O N Q true (vS (binS .eql 29 (.tmp 40) (.const (I 0)) S (I 0))) fun T =>
 rdW Tryz.prog O N (pickN Q T (B false)) fun U =>
 un (gSel U true y) fun V =>
 grdW Tryz.prog O N U true (vS (lnS 56 3 V)) fun Y =>
 grdW Tryz.prog O N U true (vS (binS .eql 3 (.tmp 45) (.const (I 1)) Y (I 1))) fun Z =>
 rdW Tryz.prog O N (pickN U Z (B false)) fun a0 =>
 un (gSel a0 true y) fun b0 =>
 grdW Tryz.prog O N a0 true (vS (ixS 56 36 b0 (I 0))) fun c0 =>
 grdW Tryz.prog O N a0 true (vS (fld 48 0 0 1 c0)) fun d0 =>
 grdW Tryz.prog O N a0 true (vS (ld1 3 d0)) fun e0 =>
 grdW Tryz.prog O N a0 true (vS (binS .eql 3 (.tmp 52) (.const (I 14)) e0 (I 14))) fun g0 =>
 rdW Tryz.prog O N (pickN a0 g0 (B false)) fun h0 =>
 un (gSel h0 true y) fun i0 =>
 grdW Tryz.prog O N h0 true (vS (ixS 56 36 i0 (I 0))) fun j0 =>
 grdW Tryz.prog O N h0 true (vS (fld 48 7 9 3 j0)) fun k0 =>
 grdW Tryz.prog O N h0 true (vS (fld 35 0 0 1 k0)) fun l0 =>
 grdW Tryz.prog O N h0 true (vS (ld1 3 l0)) fun m0 =>
 grdW Tryz.prog O N h0 true (vS (binS .eql 3 (.tmp 60) (.const (I 5)) m0 (I 5))) fun n0 =>
 rdW Tryz.prog O N (pickN h0 n0 (B false)) fun o0 =>
 un (gSel o0 true H) fun q0 =>
 grdW Tryz.prog O N o0 true (vS (lnS 56 3 q0)) fun r0 =>
 grdW Tryz.prog O N o0 true (vS (binS .eql 3 (.tmp 65) (.const (I 1)) r0 (I 1))) fun s0 =>
 rdW Tryz.prog O N (pickN o0 s0 (B false)) fun t0 =>
 un (gSel t0 true H) fun v0 =>
 grdW Tryz.prog O N t0 true (vS (ixS 56 36 v0 (I 0))) fun y0 =>
 grdW Tryz.prog O N t0 true (vS (fld 48 7 9 3 y0)) fun z0 =>
 grdW Tryz.prog O N t0 true (vS (fld 35 0 0 1 z0)) fun A0 =>
 grdW Tryz.prog O N t0 true (vS (ld1 3 A0)) fun C0 =>
 grdW Tryz.prog O N t0 true (vS (binS .eql 3 (.tmp 73) (.const (I 5)) C0 (I 5))) fun D0 =>
 rdW Tryz.prog O N (pickN t0 D0 (B false)) fun E0 =>
 un (gSel E0 true M) fun F0 =>
 grdW Tryz.prog O N E0 true (vS (lnS 54 3 F0)) fun G0 =>
 grdW Tryz.prog O N E0 true (vS (binS .eql 3 (.tmp 78) (.const (I 1)) G0 (I 1))) fun H0 =>
 rdW Tryz.prog O N (pickN E0 H0 (B false)) fun L0 =>
 un (gSel L0 true M) fun M0 =>
 grdW Tryz.prog O N L0 true (vS (ixS 54 4 M0 (I 0))) fun N0 =>
 grdW Tryz.prog O N L0 true (vS (fld 74 0 0 1 N0)) fun O0 =>
 grdW Tryz.prog O N L0 true (vS (ld1 9 O0)) fun Q0 =>
 grdW Tryz.prog O N L0 true (vS (binS .eql 9 (.tmp 85) (.const (.string { data := #[97] })) Q0 (.string { data := #[97] }))) fun S0 =>
 rdW Tryz.prog O N (pickN L0 S0 (B false)) fun T0 =>
 un (gSel T0 true i) fun U0 =>
 jn (fun (V0 : Value) (Y0 : World) (Z0 : XS) =>
 grdW Tryz.prog Z0 Y0 T0 true (vS (fdV 35 0 0 1 V0)) fun a1 =>
 grdW Tryz.prog Z0 Y0 T0 true (vS (binS .eql 3 (.tmp 91) (.const (I 5)) a1 (I 5))) fun b1 =>
 rdW Tryz.prog Z0 Y0 (pickN T0 b1 (B false)) fun c1 =>
 (fin R Z0 Y0 c1)) fun d1 =>
 (gE T0 true (eC Tryz.prog R O N true 19 #[U0] d1) (d1 undef N O))))))))))))))
theorem ok_racelaw22_first {R : Ending → World → Prop} {w0 : World} (h : vc_racelaw22_first R w0 (old w0)) : Calls Tryz.prog 9 #[] w0 R :=
  calls_of_vc (pl := pl_racelaw22_first) Tryz.func9 (by kernel_rfl) (by kernel_rfl) h
noncomputable def pl_raceref_WeighWrites : Plan := ⟨38, [], [], [0, 1, 4, 5, 6, 15], [11, 12, 13, 14, 18], [5, 6]⟩
def vc_raceref_WeighWrites (R : Ending → World → Prop) (w0 : World) (X0 : XS) (p0 : Value) (p1 : Int) : Prop :=
 (((lp2 X0 w0 (I 0) (I 0) 6 5 fun a b c d e g =>
 rdV Tryz.prog g e (lnS 23 3 p0) fun h =>
 rdV Tryz.prog g e (binOp .lss 3 c h) fun i =>
 un (gSel i true d) fun j =>
 un (gSel i true (I p1)) fun k =>
 grdW Tryz.prog g e i true (vS (binOp .leq 3 j k)) fun l =>
 rdW Tryz.prog g e (pickN i l (B false)) fun m =>
 (condW m
 ((rdV Tryz.prog g e (ixS 23 4 p0 c) fun n =>
 rdV Tryz.prog g e (fld 53 0 0 1 n) fun o =>
 rdV Tryz.prog g e (ld1 9 o) fun q =>
 rdV Tryz.prog g e (lnT 9 3 q) fun r =>
 rdV Tryz.prog g e (binOp .add 3 (I 1) r) fun s =>
 rdV Tryz.prog g e (ixS 23 4 p0 c) fun t =>
 rdV Tryz.prog g e (fld 53 1 1 3 t) fun v =>
 rdV Tryz.prog g e (fld 51 2 2 1 v) fun y =>
 rdV Tryz.prog g e (ld1 9 y) fun z =>
 rdV Tryz.prog g e (lnT 9 3 z) fun A =>
 eC Tryz.prog R g e false 40 #[d, s, (I p1)] fun C D E =>
 eC Tryz.prog R E D true 40 #[C, A, (I p1)] fun F G H =>
 ((rdV Tryz.prog H G (binOp .add 3 c (I 1)) fun L =>
 nx2 a b L F G H))))
 (fin R g e d)))))
theorem ok_raceref_WeighWrites {R : Ending → World → Prop} {w0 : World} {p0 : Value} {p1 : Int} (h : vc_raceref_WeighWrites R w0 (old w0) p0 p1) : Calls Tryz.prog 10 #[p0, (I p1)] w0 R :=
  calls_of_vc (pl := pl_raceref_WeighWrites) Tryz.func10 (by kernel_rfl) (by kernel_rfl) h
noncomputable def pl_disk_New : Plan := ⟨4, [], [], [0], [], []⟩
def vc_disk_New (R : Ending → World → Prop) (w0 : World) (X0 : XS) : Prop :=
 (eV Tryz.prog R X0 w0 true (Instr.makeMap 104 none) fun a b c =>
 rdV Tryz.prog c b (bld 106 #[a, (I 0), (I 0), (I 0), (B false)] #[(0, a)]) fun d =>
 eV Tryz.prog R c b true (Instr.box 106 d) fun e g h =>
 (fin R h g e))
theorem ok_disk_New {R : Ending → World → Prop} {w0 : World} (h : vc_disk_New R w0 (old w0)) : Calls Tryz.prog 11 #[] w0 R :=
  calls_of_vc (pl := pl_disk_New) Tryz.func11 (by kernel_rfl) (by kernel_rfl) h
noncomputable def pl_sink_Open : Plan := ⟨87, [(15, (Tryz.prog.cellsOf 117))], [62, 66, 73], [0, 1, 2, 6, 7, 8, 9, 10, 11, 12, 13, 16, 22, 30, 45, 70, 72, 83, 85], [19, 20, 21, 61, 63, 64, 65, 67, 68, 69], [11, 12]⟩
def vc_sink_Open (R : Ending → World → Prop) (w0 : World) (X0 : XS) (p0 : Value) (p1 p2 : Int) : Prop :=
 (rdV Tryz.prog X0 w0 (binOp .lss 3 (I p2) (I 0)) fun a =>
 un (gSel a false (I p2)) fun b =>
 grdW Tryz.prog X0 w0 a false (vS (binOp .gtr 3 b (I 1000))) fun c =>
 rdW Tryz.prog X0 w0 (pickN a (B true) c) fun d =>
 (condW d
 ((fin R X0 w0 (Value.tuple #[(.pointer none), (I 1)])))
 ((eC Tryz.prog R X0 w0 true 41 #[p0, (.string { data := #[115, 105, 110, 107] }), (I p1)] fun e g h =>
 rdV Tryz.prog h g (Instr.extract e 0) fun i =>
 rdV Tryz.prog h g (Instr.extract e 1) fun j =>
 (rdV Tryz.prog h g (binS .neq 29 (.tmp 29) (.const (I 0)) j (I 0)) fun k =>
 (condW k
 ((fin R h g (Value.tuple #[(.pointer none), j])))
 ((eV Tryz.prog R h g true (Instr.makeMap 110 none) fun l m n =>
 rdV Tryz.prog n m (bld 112 #[i, (I p2), (I 0), (B false), l, (I 0), (I 0), (I 0), (.slice none 0 0)] #[(0, i), (1, (I p2)), (4, l)]) fun o =>
 eV Tryz.prog R n m true (Instr.box 112 o) fun q r s =>
 (eC Tryz.prog R s r true 42 #[i] fun t v y =>
 rdV Tryz.prog y v (binS .eql 3 (.tmp 38) (.const (I 1)) t (I 1)) fun z =>
 (eC Tryz.prog R y v true 42 #[i] fun A C D =>
 (lp2 D C A z 12 11 fun E F G H L M =>
 eC Tryz.prog R M L true 43 #[i] fun N O Q =>
 rdV Tryz.prog Q O (binOp .lss 3 G N) fun S =>
 (condW S
 (((jn (fun (T : Value) (U : World) (V : XS) =>
 (rdV Tryz.prog V U (binOp .add 3 G (I 1)) fun Y =>
 nx2 E F Y T U V)) fun Z =>
 eC Tryz.prog R Q O true 44 #[i, G] fun a0 b0 c0 =>
 rdV Tryz.prog c0 b0 (Instr.extract a0 0) fun d0 =>
 rdV Tryz.prog c0 b0 (Instr.extract a0 1) fun _ =>
 (eC Tryz.prog R c0 b0 true 45 #[d0] fun e0 g0 h0 =>
 rdV Tryz.prog h0 g0 (Instr.extract e0 0) fun i0 =>
 rdV Tryz.prog h0 g0 (Instr.extract e0 1) fun j0 =>
 un (Value.agg (Value.cells i0)) fun k0 =>
 chk (List.length (Array.toList (Value.cells i0)) == 29) (chk (List.all (Array.toList (Value.cells i0)) one) ((rdV Tryz.prog h0 g0 (binS .neq 29 (.tmp 59) (.const (I 0)) j0 (I 0)) fun l0 =>
 chk (isA k0) (un (cellOf k0 0) fun m0 =>
 un (gSel l0 false m0) fun n0 =>
 grdW Tryz.prog h0 g0 l0 false (vS (binS .neq 3 (.tmp 63) (.const (I 11)) n0 (I 11))) fun o0 =>
 un (gSel l0 false o0) fun q0 =>
 un (gSel q0 true m0) fun r0 =>
 grdW Tryz.prog h0 g0 q0 true (vS (binS .neq 3 (.tmp 67) (.const (I 12)) r0 (I 12))) fun s0 =>
 grdW Tryz.prog h0 g0 l0 false (pickN q0 s0 (B false)) fun t0 =>
 rdW Tryz.prog h0 g0 (pickN l0 (B true) t0) fun v0 =>
 (condW v0
 ((fin R h0 g0 (Value.tuple #[(.pointer none), (I 13)])))
 ((rdV Tryz.prog h0 g0 (Op.unary UnOp.not H) fun y0 =>
 (condW y0
 (chk (isA k0) (rdV Tryz.prog h0 g0 (binS .eql 3 (.tmp 74) (.const (I 12)) m0 (I 12)) fun z0 =>
 (chk (isA k0) (un (subOf k0 0 29) fun A0 =>
 eC Tryz.prog R h0 g0 true 46 #[q, A0, z0] fun _ C0 D0 =>
 (Z z0 C0 D0)))))
 ((chk (isA k0) (un (subOf k0 0 29) fun E0 =>
 eC Tryz.prog R h0 g0 true 47 #[q, E0] fun F0 G0 H0 =>
 rdV Tryz.prog H0 G0 (Op.unary UnOp.not F0) fun L0 =>
 (condW L0
 ((fin R H0 G0 (Value.tuple #[(.pointer none), (I 13)])))
 (Z H G0 H0)))))))))))))))))
 (((rdV Tryz.prog Q O (Op.unary UnOp.not H) fun M0 =>
 (condW M0
 ((fin R Q O (Value.tuple #[(.pointer none), (I 13)])))
 (((fin R Q O (Value.tuple #[q, (I 0)]))))))))))))))))))))
theorem ok_sink_Open {R : Ending → World → Prop} {w0 : World} {p0 : Value} {p1 p2 : Int} (h : vc_sink_Open R w0 (old w0) p0 p1 p2) : Calls Tryz.prog 12 #[p0, (I p1), (I p2)] w0 R :=
  calls_of_vc (pl := pl_sink_Open) Tryz.func12 (by kernel_rfl) (by kernel_rfl) h
noncomputable def pl_racelaw22_apply : Plan := ⟨23, [(6, (Tryz.prog.cellsOf 48)), (7, (Tryz.prog.cellsOf 48))], [21], [0, 1, 2, 18], [], []⟩
def vc_racelaw22_apply (R : Ending → World → Prop) (w0 : World) (X0 : XS) (p0 p1 : Int) (p2 : ByteArray) : Prop :=
 (rdV Tryz.prog X0 w0 (bld 33 #[(I 1), (I 1), (I p1)] #[(0, (I 1)), (1, (I 1)), (2, (I p1))]) fun a =>
 rdV Tryz.prog X0 w0 (bld 35 #[(I p1), (I 0), (I 1)] #[(0, (I p1)), (2, (I 1))]) fun b =>
 rdV Tryz.prog X0 w0 (bld 51 #[(I 1), (.float .f64 4607182418800017408), (.string ⟨#[]⟩)] #[(0, (I 1)), (1, (.float .f64 4607182418800017408))]) fun c =>
 un (cellOf c 0) fun d =>
 un (cellOf c 1) fun e =>
 un (cellOf c 2) fun g =>
 rdV Tryz.prog X0 w0 (bld 53 #[(.string p2), d, e, g] #[(0, (.string p2)), (1, c)]) fun h =>
 eV Tryz.prog R X0 w0 true (bsS 23 53 4 1 #[(0, h)]) fun i j k =>
 un (cellOf a 0) fun l =>
 un (cellOf a 1) fun m =>
 un (cellOf a 2) fun n =>
 un (cellOf b 0) fun o =>
 un (cellOf b 1) fun q =>
 un (cellOf b 2) fun r =>
 rdV Tryz.prog k j (bld 48 #[(I 12), (I 31), (I 32), l, m, n, (I 0), (I 0), (I 0), o, q, r, (I 0), (I 0), (I 0), (B false), (I 0), (I 0), (.slice none 0 0), (.slice none 0 0), i, (.slice none 0 0), (.slice none 0 0), (.slice none 0 0), (I 0), (I 0), (.float .f64 0), (.float .f64 0), (I 0), (I 0), (I 0), (I 0), (I 0), (I 0), (.slice none 0 0), (.slice none 0 0)] #[(0, (I 12)), (1, (I 31)), (2, (I 32)), (3, a), (7, b), (14, i)]) fun s =>
 un (Value.agg (Value.cells s)) fun t =>
 chk (List.length (Array.toList (Value.cells s)) == 36) (chk (List.all (Array.toList (Value.cells s)) one) (((jn (fun (v : Value) =>
 chk (isA v) (un (subOf v 0 36) fun y =>
 un (Value.agg (Value.cells y)) fun z =>
 chk (List.length (Array.toList (Value.cells y)) == 36) (chk (List.all (Array.toList (Value.cells y)) one) (un (subOf z 0 36) fun A =>
 chk (List.all [z] isA) (fin R k j A))))) fun C =>
 rdV Tryz.prog k j (binOp .gtr 3 (I p0) (I 0)) fun D =>
 (condW D
 (rdV Tryz.prog k j (bld 35 #[(I p0), (I 0), (I 1)] #[(0, (I p0)), (2, (I 1))]) fun E =>
 chk (isA t) (un (Value.agg (List.toArray (setL (Array.toList (Value.cells t)) 12 (Array.toList (Value.cells E))))) fun F =>
 chk (List.length (Array.toList (Value.cells E)) == 3) (chk (List.all (Array.toList (Value.cells E)) one) (C F))))
 (C t)))))))
theorem ok_racelaw22_apply {R : Ending → World → Prop} {w0 : World} {p0 p1 : Int} {p2 : ByteArray} (h : vc_racelaw22_apply R w0 (old w0) p0 p1 p2) : Calls Tryz.prog 13 #[(I p0), (I p1), (.string p2)] w0 R :=
  calls_of_vc (pl := pl_racelaw22_apply) Tryz.func13 (by kernel_rfl) (by kernel_rfl) h
noncomputable def pl_sink_Node_Pairs : Plan := ⟨30, [], [], [0, 2, 3, 5, 11, 12, 13, 14], [], [3, 13]⟩
def vc_sink_Node_Pairs (R : Ending → World → Prop) (w0 : World) (X0 : XS) (p0 : Value) : Prop :=
 ((rdW Tryz.prog X0 w0 (nilN p0) fun a =>
 rdV Tryz.prog X0 w0 (fld 112 4 4 1 a) fun b =>
 rdV Tryz.prog X0 w0 (ld1 110 b) fun c =>
 eC Tryz.prog R X0 w0 true 49 #[c] fun d e g =>
 eC Tryz.prog R g e true 48 #[d] fun h i j =>
 rdV Tryz.prog j i (lnS 36 3 h) fun k =>
 (lp2 j i (I 0) (.slice none 0 0) 13 3 fun l m n o q r =>
 rdV Tryz.prog r q (binOp .lss 3 n k) fun s =>
 (condW s
 ((rdV Tryz.prog r q (ixS 36 1 h n) fun t =>
 rdV Tryz.prog r q (ld1 9 t) fun v =>
 (rdW Tryz.prog r q (nilN p0) fun y =>
 rdV Tryz.prog r q (fld 112 4 4 1 y) fun z =>
 rdV Tryz.prog r q (ld1 110 z) fun A =>
 rdV Tryz.prog r q (Instr.lookup 110 A v false) fun C =>
 un (cellOf C 0) fun D =>
 un (cellOf C 1) fun E =>
 un (cellOf C 2) fun F =>
 rdV Tryz.prog r q (bld 74 #[v, D, E, F] #[(0, v), (1, C)]) fun G =>
 eV Tryz.prog R r q true (bsS 54 74 4 1 #[(0, G)]) fun H L M =>
 eV Tryz.prog R M L true (apS 54 74 4 48 54 o H) fun N O Q =>
 ((rdV Tryz.prog Q O (binOp .add 3 n (I 1)) fun S =>
 nx2 l m S N O Q)))))
 (fin R r q o)))))
theorem ok_sink_Node_Pairs {R : Ending → World → Prop} {w0 : World} {p0 : Value} (h : vc_sink_Node_Pairs R w0 (old w0) p0) : Calls Tryz.prog 14 #[p0] w0 R :=
  calls_of_vc (pl := pl_sink_Node_Pairs) Tryz.func14 (by kernel_rfl) (by kernel_rfl) h
noncomputable def pl_raceref_Pairs : Plan := ⟨42, [], [], [0, 1, 4, 5, 10, 14, 41], [28, 29, 30, 31, 32, 33, 34, 35, 36, 37, 38, 39, 40], [5]⟩
def vc_raceref_Pairs (R : Ending → World → Prop) (w0 : World) (X0 : XS) (p0 p1 : Value) : Prop :=
 (rdV Tryz.prog X0 w0 (lnS 54 3 p0) fun a =>
 rdV Tryz.prog X0 w0 (lnS 54 3 p1) fun b =>
 rdV Tryz.prog X0 w0 (binS .neq 3 (.tmp 7) (.tmp 9) a b) fun c =>
 (condW c
 (fin R X0 w0 (B false))
 (((lp1 X0 w0 (I 0) 5 fun d e g h i =>
 rdV Tryz.prog i h (lnS 54 3 p0) fun j =>
 rdV Tryz.prog i h (binOp .lss 3 g j) fun k =>
 (condW k
 ((rdV Tryz.prog i h (ixS 54 4 p0 g) fun l =>
 rdV Tryz.prog i h (fld 74 0 0 1 l) fun m =>
 rdV Tryz.prog i h (ld1 9 m) fun n =>
 rdV Tryz.prog i h (ixS 54 4 p1 g) fun o =>
 rdV Tryz.prog i h (fld 74 0 0 1 o) fun q =>
 rdV Tryz.prog i h (ld1 9 q) fun r =>
 rdV Tryz.prog i h (binS .neq 9 (.tmp 21) (.tmp 26) n r) fun s =>
 un (gSel s false p0) fun t =>
 un (gSel s false g) fun v =>
 grdW Tryz.prog i h s false (vS (ixS 54 4 t v)) fun y =>
 grdW Tryz.prog i h s false (vS (fld 74 1 1 3 y)) fun z =>
 grdW Tryz.prog i h s false (vS (ldA 51 3 z)) fun A =>
 un (gSel s false p1) fun C =>
 grdW Tryz.prog i h s false (vS (ixS 54 4 C v)) fun D =>
 grdW Tryz.prog i h s false (vS (fld 74 1 1 3 D)) fun E =>
 grdW Tryz.prog i h s false (vS (ldA 51 3 E)) fun F =>
 jn (fun (G : Value) (H : World) (L : XS) =>
 grdW Tryz.prog L H s false (vS (Op.unary UnOp.not G)) fun M =>
 rdW Tryz.prog L H (pickN s (B true) M) fun N =>
 (condW N
 (fin R L H (B false))
 (((rdV Tryz.prog L H (binOp .add 3 g (I 1)) fun O =>
 nx1 d e O H L))))) fun Q =>
 (gE s false (eC Tryz.prog R i h true 25 #[A, F] Q) (Q undef h i))))
 (fin R i h (B true))))))))
theorem ok_raceref_Pairs {R : Ending → World → Prop} {w0 : World} {p0 p1 : Value} (h : vc_raceref_Pairs R w0 (old w0) p0 p1) : Calls Tryz.prog 18 #[p0, p1] w0 R :=
  calls_of_vc (pl := pl_raceref_Pairs) Tryz.func18 (by kernel_rfl) (by kernel_rfl) h
noncomputable def pl_sink_Node_High : Plan := ⟨7, [(2, (Tryz.prog.cellsOf 35))], [], [0], [], []⟩
def vc_sink_Node_High (R : Ending → World → Prop) (w0 : World) (X0 : XS) (p0 : Value) : Prop :=
 (rdW Tryz.prog X0 w0 (nilN p0) fun a =>
 rdV Tryz.prog X0 w0 (fld 112 5 5 3 a) fun b =>
 rdV Tryz.prog X0 w0 (ldA 35 3 b) fun c =>
 un (Value.agg (Value.cells c)) fun d =>
 chk (List.length (Array.toList (Value.cells c)) == 3) (chk (List.all (Array.toList (Value.cells c)) one) (un (subOf d 0 3) fun e =>
 chk (List.all [d] isA) (fin R X0 w0 e))))
theorem ok_sink_Node_High {R : Ending → World → Prop} {w0 : World} {p0 : Value} (h : vc_sink_Node_High R w0 (old w0) p0) : Calls Tryz.prog 19 #[p0] w0 R :=
  calls_of_vc (pl := pl_sink_Node_High) Tryz.func19 (by kernel_rfl) (by kernel_rfl) h
noncomputable def pl_disk_Disk_List : Plan := ⟨9, [], [], [0, 2], [], []⟩
def vc_disk_Disk_List (R : Ending → World → Prop) (w0 : World) (X0 : XS) (p0 : Value) : Prop :=
 (rdW Tryz.prog X0 w0 (nilN p0) fun a =>
 rdV Tryz.prog X0 w0 (fld 106 0 0 1 a) fun b =>
 rdV Tryz.prog X0 w0 (ld1 104 b) fun c =>
 eC Tryz.prog R X0 w0 true 59 #[c] fun d e g =>
 eC Tryz.prog R g e true 48 #[d] fun h i j =>
 (fin R j i h))
theorem ok_disk_Disk_List {R : Ending → World → Prop} {w0 : World} {p0 : Value} (h : vc_disk_Disk_List R w0 (old w0) p0) : Calls Tryz.prog 20 #[p0] w0 R :=
  calls_of_vc (pl := pl_disk_Disk_List) Tryz.func20 (by kernel_rfl) (by kernel_rfl) h
noncomputable def pl_sink_Node_Applied : Plan := ⟨25, [(5, (Tryz.prog.cellsOf 73))], [15, 18], [0, 2, 3, 9, 10, 11, 12], [], [3, 11]⟩
def vc_sink_Node_Applied (R : Ending → World → Prop) (w0 : World) (X0 : XS) (p0 : Value) : Prop :=
 ((rdW Tryz.prog X0 w0 (nilN p0) fun a =>
 rdV Tryz.prog X0 w0 (fld 112 6 8 1 a) fun b =>
 rdV Tryz.prog X0 w0 (ld1 63 b) fun c =>
 rdV Tryz.prog X0 w0 (lnS 63 3 c) fun d =>
 (lp2 X0 w0 (I 0) (.slice none 0 0) 11 3 fun e g h i j k =>
 rdV Tryz.prog k j (binOp .lss 3 h d) fun l =>
 (condW l
 ((rdV Tryz.prog k j (ixS 63 7 c h) fun m =>
 rdV Tryz.prog k j (ldA 73 7 m) fun n =>
 un (Value.agg (Value.cells n)) fun o =>
 chk (List.length (Array.toList (Value.cells n)) == 7) (chk (List.all (Array.toList (Value.cells n)) one) ((chk (isA o) (un (cellOf o 6) fun q =>
 eC Tryz.prog R k j true 60 #[q] fun r s t =>
 un (Value.agg (List.toArray (setL (Array.toList (Value.cells o)) 6 [r]))) fun v =>
 chk (one r) ((chk (isA v) (un (subOf v 0 7) fun y =>
 eV Tryz.prog R t s true (bsS 63 73 7 1 #[(0, y)]) fun z A C =>
 eV Tryz.prog R C A true (apS 63 73 7 72 63 i z) fun D E F =>
 ((rdV Tryz.prog F E (binOp .add 3 h (I 1)) fun G =>
 nx2 e g G D E F)))))))))))
 (fin R k j i)))))
theorem ok_sink_Node_Applied {R : Ending → World → Prop} {w0 : World} {p0 : Value} (h : vc_sink_Node_Applied R w0 (old w0) p0) : Calls Tryz.prog 21 #[p0] w0 R :=
  calls_of_vc (pl := pl_sink_Node_Applied) Tryz.func21 (by kernel_rfl) (by kernel_rfl) h
noncomputable def pl_racelaw22_Few : Plan := ⟨34, [], [], [0, 2, 3, 4, 16], [9, 10, 11, 13, 14, 15, 30, 31, 32], [3, 4]⟩
def vc_racelaw22_Few (R : Ending → World → Prop) (w0 : World) (X0 : XS) (p0 : Value) : Prop :=
 (((lp2 X0 w0 (I 0) (I 0) 4 3 fun a b c d e g =>
 rdV Tryz.prog g e (lnS 66 3 p0) fun h =>
 rdV Tryz.prog g e (binOp .lss 3 c h) fun i =>
 un (gSel i true c) fun j =>
 grdW Tryz.prog g e i true (vS (binOp .lss 3 j (I 200))) fun k =>
 rdW Tryz.prog g e (pickN i k (B false)) fun l =>
 un (gSel l true d) fun m =>
 grdW Tryz.prog g e l true (vS (binOp .leq 3 m (I 20000))) fun n =>
 rdW Tryz.prog g e (pickN l n (B false)) fun o =>
 (condW o
 ((rdV Tryz.prog g e (ixS 66 39 p0 c) fun q =>
 rdV Tryz.prog g e (fld 70 2 2 36 q) fun r =>
 rdV Tryz.prog g e (ldA 48 36 r) fun s =>
 eC Tryz.prog R g e true 61 #[s, (I 20000)] fun t v y =>
 rdV Tryz.prog y v (binOp .add 3 d t) fun z =>
 ((rdV Tryz.prog y v (binOp .add 3 c (I 1)) fun A =>
 nx2 a b A z v y))))
 (((rdV Tryz.prog g e (lnS 66 3 p0) fun C =>
 rdV Tryz.prog g e (binOp .leq 3 C (I 200)) fun D =>
 un (gSel D true d) fun E =>
 grdW Tryz.prog g e D true (vS (binOp .leq 3 E (I 20000))) fun F =>
 rdW Tryz.prog g e (pickN D F (B false)) fun G =>
 (fin R g e G))))))))
theorem ok_racelaw22_Few {R : Ending → World → Prop} {w0 : World} {p0 : Value} (h : vc_racelaw22_Few R w0 (old w0) p0) : Calls Tryz.prog 22 #[p0] w0 R :=
  calls_of_vc (pl := pl_racelaw22_Few) Tryz.func22 (by kernel_rfl) (by kernel_rfl) h
noncomputable def pl_raceref_WeighTexts : Plan := ⟨28, [], [], [0, 1, 4, 5, 6, 15], [11, 12, 13, 14], [5, 6]⟩
def vc_raceref_WeighTexts (R : Ending → World → Prop) (w0 : World) (X0 : XS) (p0 : Value) (p1 : Int) : Prop :=
 (((lp2 X0 w0 (I 0) (I 0) 6 5 fun a b c d e g =>
 rdV Tryz.prog g e (lnS 36 3 p0) fun h =>
 rdV Tryz.prog g e (binOp .lss 3 c h) fun i =>
 un (gSel i true d) fun j =>
 un (gSel i true (I p1)) fun k =>
 grdW Tryz.prog g e i true (vS (binOp .leq 3 j k)) fun l =>
 rdW Tryz.prog g e (pickN i l (B false)) fun m =>
 (condW m
 ((rdV Tryz.prog g e (ixS 36 1 p0 c) fun n =>
 rdV Tryz.prog g e (ld1 9 n) fun o =>
 rdV Tryz.prog g e (lnT 9 3 o) fun q =>
 rdV Tryz.prog g e (binOp .add 3 (I 1) q) fun r =>
 eC Tryz.prog R g e true 40 #[d, r, (I p1)] fun s t v =>
 ((rdV Tryz.prog v t (binOp .add 3 c (I 1)) fun y =>
 nx2 a b y s t v))))
 (fin R g e d)))))
theorem ok_raceref_WeighTexts {R : Ending → World → Prop} {w0 : World} {p0 : Value} {p1 : Int} (h : vc_raceref_WeighTexts R w0 (old w0) p0 p1) : Calls Tryz.prog 23 #[p0, (I p1)] w0 R :=
  calls_of_vc (pl := pl_raceref_WeighTexts) Tryz.func23 (by kernel_rfl) (by kernel_rfl) h
noncomputable def pl_racelaw22_pairs : Plan := ⟨34, [], [], [0, 1, 4, 5, 6, 7, 10, 20], [], [5, 6, 7]⟩
def vc_racelaw22_pairs (R : Ending → World → Prop) (w0 : World) (X0 : XS) (p0 : Value) (p1 : Int) : Prop :=
 (((lp3 X0 w0 (I 0) (.slice none 0 0) undef 6 5 7 fun a b c d _ e g =>
 rdV Tryz.prog g e (binOp .lss 3 c (I p1)) fun h =>
 (condW h
 (((lp2 g e (I 0) d 7 5 fun i j k l m n =>
 rdV Tryz.prog n m (ixS 63 7 p0 c) fun o =>
 rdV Tryz.prog n m (fld 73 2 6 1 o) fun q =>
 rdV Tryz.prog n m (ld1 23 q) fun r =>
 rdV Tryz.prog n m (lnS 23 3 r) fun s =>
 rdV Tryz.prog n m (binOp .lss 3 k s) fun t =>
 (condW t
 ((rdV Tryz.prog n m (ixS 63 7 p0 c) fun v =>
 rdV Tryz.prog n m (fld 73 2 6 1 v) fun y =>
 rdV Tryz.prog n m (ld1 23 y) fun z =>
 rdV Tryz.prog n m (ixS 23 4 z k) fun A =>
 rdV Tryz.prog n m (ldA 53 4 A) fun C =>
 eC Tryz.prog R n m true 62 #[l, C] fun D E F =>
 ((rdV Tryz.prog F E (binOp .add 3 k (I 1)) fun G =>
 nx2 i j G D E F))))
 ((((rdV Tryz.prog n m (binOp .add 3 c (I 1)) fun H =>
 nx3 a b H l k m n))))))))
 (fin R g e d)))))
theorem ok_racelaw22_pairs {R : Ending → World → Prop} {w0 : World} {p0 : Value} {p1 : Int} (h : vc_racelaw22_pairs R w0 (old w0) p0 p1) : Calls Tryz.prog 24 #[p0, (I p1)] w0 R :=
  calls_of_vc (pl := pl_racelaw22_pairs) Tryz.func24 (by kernel_rfl) (by kernel_rfl) h
noncomputable def pl_raceref_Value : Plan := ⟨24, [(2, (Tryz.prog.cellsOf 51)), (3, (Tryz.prog.cellsOf 51))], [5, 7, 11, 13, 18, 20], [0, 1, 4], [10, 12, 14, 15, 17, 19, 21, 22], []⟩
def vc_raceref_Value (R : Ending → World → Prop) (w0 : World) (X0 : XS) (p0_0 : Int) (p0_1 : Nat) (p0_2 : ByteArray) (p1_0 : Int) (p1_1 : Nat) (p1_2 : ByteArray) : Prop :=
 (rdV Tryz.prog X0 w0 (binS .eql 3 (.tmp 6) (.tmp 8) (I p0_0) (I p1_0)) fun a =>
 un (gSel a true (.string p0_2)) fun b =>
 un (gSel a true (.string p1_2)) fun c =>
 grdW Tryz.prog X0 w0 a true (vS (binS .eql 9 (.tmp 12) (.tmp 14) b c)) fun d =>
 rdW Tryz.prog X0 w0 (pickN a d (B false)) fun e =>
 un (gSel e true (.float .f64 p0_1)) fun g =>
 un (gSel e true (.float .f64 p1_1)) fun h =>
 jn (fun (i : Value) (j : World) (k : XS) =>
 rdW Tryz.prog k j (pickN e i (B false)) fun l =>
 (fin R k j l)) fun m =>
 (gE e true (eC Tryz.prog R X0 w0 true 63 #[g, h] m) (m undef w0 X0)))
theorem ok_raceref_Value {R : Ending → World → Prop} {w0 : World} {p0_0 : Int} {p0_1 : Nat} {p0_2 : ByteArray} {p1_0 : Int} {p1_1 : Nat} {p1_2 : ByteArray} (h : vc_raceref_Value R w0 (old w0) p0_0 p0_1 p0_2 p1_0 p1_1 p1_2) : Calls Tryz.prog 25 #[(.agg #[(I p0_0), (.float .f64 p0_1), (.string p0_2)]), (.agg #[(I p1_0), (.float .f64 p1_1), (.string p1_2)])] w0 R :=
  calls_of_vc (pl := pl_raceref_Value) Tryz.func25 (by kernel_rfl) (by kernel_rfl) h
noncomputable def pl_sink_Node_Get : Plan := ⟨11, [(4, (Tryz.prog.cellsOf 51))], [], [0, 1], [], []⟩
def vc_sink_Node_Get (R : Ending → World → Prop) (w0 : World) (X0 : XS) (p0 : Value) (p1 : ByteArray) : Prop :=
 (rdW Tryz.prog X0 w0 (nilN p0) fun a =>
 rdV Tryz.prog X0 w0 (fld 112 4 4 1 a) fun b =>
 rdV Tryz.prog X0 w0 (ld1 110 b) fun c =>
 rdV Tryz.prog X0 w0 (Instr.lookup 110 c (.string p1) false) fun d =>
 un (Value.agg (Value.cells d)) fun e =>
 chk (List.length (Array.toList (Value.cells d)) == 3) (chk (List.all (Array.toList (Value.cells d)) one) (un (subOf e 0 3) fun g =>
 chk (List.all [e] isA) (fin R X0 w0 g))))
theorem ok_sink_Node_Get {R : Ending → World → Prop} {w0 : World} {p0 : Value} {p1 : ByteArray} (h : vc_sink_Node_Get R w0 (old w0) p0 p1) : Calls Tryz.prog 26 #[p0, (.string p1)] w0 R :=
  calls_of_vc (pl := pl_sink_Node_Get) Tryz.func26 (by kernel_rfl) (by kernel_rfl) h
noncomputable def pl_raceref_few : Plan := ⟨20, [], [], [0, 1, 2, 6, 14], [10, 11, 12, 13], []⟩
def vc_raceref_few (R : Ending → World → Prop) (w0 : World) (X0 : XS) (p0 p1 p2 : Int) : Prop :=
 (rdV Tryz.prog X0 w0 (binOp .gtr 3 (I p1) (I p2)) fun a =>
 un (gSel a false (I p0)) fun b =>
 un (gSel a false (I p2)) fun c =>
 grdW Tryz.prog X0 w0 a false (vS (binOp .gtr 3 b c)) fun d =>
 rdW Tryz.prog X0 w0 (pickN a (B true) d) fun e =>
 (condW e
 (rdV Tryz.prog X0 w0 (binOp .add 3 (I p2) (I 1)) fun g =>
 (fin R X0 w0 g))
 ((rdV Tryz.prog X0 w0 (binOp .add 3 (I p0) (I p1)) fun h =>
 (fin R X0 w0 h)))))
theorem ok_raceref_few {R : Ending → World → Prop} {w0 : World} {p0 p1 p2 : Int} (h : vc_raceref_few R w0 (old w0) p0 p1 p2) : Calls Tryz.prog 40 #[(I p0), (I p1), (I p2)] w0 R :=
  calls_of_vc (pl := pl_raceref_few) Tryz.func40 (by kernel_rfl) (by kernel_rfl) h
noncomputable def pl_wal_Open : Plan := ⟨79, [], [], [0, 1, 2, 6, 7, 9, 10, 12, 13, 14, 15, 16, 22, 26, 33, 42, 43, 44, 45, 52, 58, 66, 70, 76], [29, 30, 31], [44]⟩
def vc_wal_Open (R : Ending → World → Prop) (w0 : World) (X0 : XS) (p0 : Value) (p1 : ByteArray) (p2 : Int) : Prop :=
 (eC Tryz.prog R X0 w0 true 79 #[(.string p1), (I 1)] fun a b c =>
 rdV Tryz.prog c b (Instr.extract a 0) fun _ =>
 rdV Tryz.prog c b (Instr.extract a 1) fun d =>
 (rdV Tryz.prog c b (binS .neq 29 (.tmp 23) (.const (I 0)) d (I 0)) fun e =>
 (condW e
 ((fin R c b (Value.tuple #[(.pointer none), d])))
 (rdV Tryz.prog c b (binOp .lss 3 (I p2) (I 64)) fun g =>
 un (gSel g false (I p2)) fun h =>
 grdW Tryz.prog c b g false (vS (binOp .gtr 3 h (I 262144))) fun i =>
 rdW Tryz.prog c b (pickN g (B true) i) fun j =>
 (condW j
 ((fin R c b (Value.tuple #[(.pointer none), (I 1)])))
 (eC Tryz.prog R c b true 80 #[p0] fun k l m =>
 (condW k
 ((fin R m l (Value.tuple #[(.pointer none), (I 12)])))
 (((rdV Tryz.prog m l (bld 158 #[p0, (.string p1), (I p2), (.slice none 0 0), (I 0)] #[(0, p0), (1, (.string p1)), (2, (I p2))]) fun n =>
 eV Tryz.prog R m l true (Instr.box 158 n) fun o q r =>
 (eC Tryz.prog R r q true 20 #[p0] fun s t v =>
 rdV Tryz.prog v t (lnS 36 3 s) fun y =>
 (lp1 v t (I 0) 44 fun z A C D E =>
 rdV Tryz.prog E D (binOp .lss 3 C y) fun F =>
 (condW F
 (((jn (fun (G : World) (H : XS) =>
 (rdV Tryz.prog H G (binOp .add 3 C (I 1)) fun L =>
 nx1 z A L G H)) fun M =>
 rdV Tryz.prog E D (ixS 36 1 s C) fun N =>
 rdV Tryz.prog E D (ld1 9 N) fun O =>
 (eC Tryz.prog R E D true 81 #[(.string p1), O] fun Q S T =>
 (rdV Tryz.prog T S (binS .eql 3 (.tmp 51) (.const (I 0)) Q (I 0)) fun U =>
 (condW U
 (M S T)
 ((eC Tryz.prog R T S true 82 #[o, Q, O] fun V Y Z =>
 (rdV Tryz.prog Z Y (binS .neq 29 (.tmp 57) (.const (I 0)) V (I 0)) fun a0 =>
 (condW a0
 ((fin R Z Y (Value.tuple #[(.pointer none), V])))
 (M Y Z)))))))))))
 (((rdW Tryz.prog E D (nilN o) fun b0 =>
 rdV Tryz.prog E D (fld 158 3 3 1 b0) fun c0 =>
 rdV Tryz.prog E D (ld1 156 c0) fun d0 =>
 rdV Tryz.prog E D (lnS 156 3 d0) fun e0 =>
 rdV Tryz.prog E D (binS .eql 3 (.tmp 65) (.const (I 0)) e0 (I 0)) fun g0 =>
 (condW g0
 (eC Tryz.prog R E D true 83 #[o, (I 1)] fun h0 i0 j0 =>
 (rdV Tryz.prog j0 i0 (binS .neq 29 (.tmp 69) (.const (I 0)) h0 (I 0)) fun k0 =>
 (condW k0
 ((fin R j0 i0 (Value.tuple #[(.pointer none), h0])))
 (((fin R j0 i0 (Value.tuple #[o, (I 0)])))))))
 ((eC Tryz.prog R E D true 84 #[o] fun l0 m0 n0 =>
 (rdV Tryz.prog n0 m0 (binS .neq 29 (.tmp 75) (.const (I 0)) l0 (I 0)) fun o0 =>
 (condW o0
 ((fin R n0 m0 (Value.tuple #[(.pointer none), l0])))
 (((fin R n0 m0 (Value.tuple #[o, (I 0)])))))))))))))))))))))))))
theorem ok_wal_Open {R : Ending → World → Prop} {w0 : World} {p0 : Value} {p1 : ByteArray} {p2 : Int} (h : vc_wal_Open R w0 (old w0) p0 p1 p2) : Calls Tryz.prog 41 #[p0, (.string p1), (I p2)] w0 R :=
  calls_of_vc (pl := pl_wal_Open) Tryz.func41 (by kernel_rfl) (by kernel_rfl) h
noncomputable def pl_wal_Log_First : Plan := ⟨12, [], [], [0, 2], [], []⟩
def vc_wal_Log_First (R : Ending → World → Prop) (w0 : World) (X0 : XS) (p0 : Value) : Prop :=
 (rdW Tryz.prog X0 w0 (nilN p0) fun a =>
 rdV Tryz.prog X0 w0 (fld 158 3 3 1 a) fun b =>
 rdV Tryz.prog X0 w0 (ld1 156 b) fun c =>
 rdV Tryz.prog X0 w0 (ixS 156 1 c (I 0)) fun d =>
 rdV Tryz.prog X0 w0 (ld1 164 d) fun e =>
 rdW Tryz.prog X0 w0 (nilN e) fun g =>
 rdV Tryz.prog X0 w0 (fld 163 0 0 1 g) fun h =>
 rdV Tryz.prog X0 w0 (ld1 3 h) fun i =>
 (fin R X0 w0 i))
theorem ok_wal_Log_First {R : Ending → World → Prop} {w0 : World} {p0 : Value} (h : vc_wal_Log_First R w0 (old w0) p0) : Calls Tryz.prog 42 #[p0] w0 R :=
  calls_of_vc (pl := pl_wal_Log_First) Tryz.func42 (by kernel_rfl) (by kernel_rfl) h
noncomputable def pl_wal_Log_Next : Plan := ⟨15, [], [], [0, 2], [], []⟩
def vc_wal_Log_Next (R : Ending → World → Prop) (w0 : World) (X0 : XS) (p0 : Value) : Prop :=
 (eC Tryz.prog R X0 w0 true 85 #[p0] fun a b c =>
 rdW Tryz.prog c b (nilN a) fun d =>
 rdV Tryz.prog c b (fld 163 0 0 1 d) fun e =>
 rdV Tryz.prog c b (ld1 3 e) fun g =>
 eC Tryz.prog R c b false 85 #[p0] fun h i j =>
 rdW Tryz.prog j i (nilN h) fun k =>
 rdV Tryz.prog j i (fld 163 1 1 1 k) fun l =>
 rdV Tryz.prog j i (ld1 161 l) fun m =>
 rdV Tryz.prog j i (lnS 161 3 m) fun n =>
 rdV Tryz.prog j i (binOp .add 3 g n) fun o =>
 (fin R j i o))
theorem ok_wal_Log_Next {R : Ending → World → Prop} {w0 : World} {p0 : Value} (h : vc_wal_Log_Next R w0 (old w0) p0) : Calls Tryz.prog 43 #[p0] w0 R :=
  calls_of_vc (pl := pl_wal_Log_Next) Tryz.func43 (by kernel_rfl) (by kernel_rfl) h
noncomputable def pl_maps_Keys_map_string_api_Value_string_api_Value : Plan := ⟨4, [], [], [0, 1, 2], [], []⟩
def vc_maps_Keys_map_string_api_Value_string_api_Value (R : Ending → World → Prop) (w0 : World) (X0 : XS) (p0 : Value) : Prop :=
 eV Tryz.prog R X0 w0 true (Instr.box 110 p0) fun a b c =>
 (rdV Tryz.prog c b (Instr.makeFunc (Fn.func 98) #[] #[a]) fun d =>
 (fin R c b d))
theorem ok_maps_Keys_map_string_api_Value_string_api_Value {R : Ending → World → Prop} {w0 : World} {p0 : Value} (h : vc_maps_Keys_map_string_api_Value_string_api_Value R w0 (old w0) p0) : Calls Tryz.prog 49 #[p0] w0 R :=
  calls_of_vc (pl := pl_maps_Keys_map_string_api_Value_string_api_Value) Tryz.func49 (by kernel_rfl) (by kernel_rfl) h
noncomputable def pl_msgs_May : Plan := ⟨34, [(1, (Tryz.prog.cellsOf 48)), (3, (Tryz.prog.cellsOf 48))], [14, 19], [0, 2, 4, 10, 13], [18, 20, 21, 22, 24, 25, 26, 27, 29, 30, 31, 32], []⟩
def vc_msgs_May (R : Ending → World → Prop) (w0 : World) (X0 : XS) (p0_0 p0_1 p0_2 p0_3 p0_4 p0_5 p0_6 p0_7 p0_8 p0_9 p0_10 p0_11 p0_12 p0_13 p0_14 : Int) (p0_15 : Bool) (p0_16 p0_17 : Int) (p0_18 p0_19 p0_20 p0_21 p0_22 p0_23 : Value) (p0_24 p0_25 : Int) (p0_26 p0_27 : Nat) (p0_28 p0_29 p0_30 p0_31 p0_32 p0_33 : Int) (p0_34 p0_35 : Value) : Prop :=
 (eC Tryz.prog R X0 w0 true 99 #[(.agg #[(I p0_0), (I p0_1), (I p0_2), (I p0_3), (I p0_4), (I p0_5), (I p0_6), (I p0_7), (I p0_8), (I p0_9), (I p0_10), (I p0_11), (I p0_12), (I p0_13), (I p0_14), (B p0_15), (I p0_16), (I p0_17), p0_18, p0_19, p0_20, p0_21, p0_22, p0_23, (I p0_24), (I p0_25), (.float .f64 p0_26), (.float .f64 p0_27), (I p0_28), (I p0_29), (I p0_30), (I p0_31), (I p0_32), (I p0_33), p0_34, p0_35])] fun a b c =>
 rdV Tryz.prog c b (Instr.extract a 0) fun d =>
 rdV Tryz.prog c b (Instr.extract a 1) fun e =>
 un (Value.agg (Value.cells d)) fun g =>
 chk (List.length (Array.toList (Value.cells d)) == 36) (chk (List.all (Array.toList (Value.cells d)) one) ((rdV Tryz.prog c b (Op.unary UnOp.not e) fun h =>
 (condW h
 (fin R c b (I 7))
 (eC Tryz.prog R c b true 100 #[(I p0_1)] fun i j k =>
 rdV Tryz.prog k j (Op.unary UnOp.not i) fun l =>
 un (gSel l false (I p0_2)) fun m =>
 jn (fun (n : Value) (o : World) (q : XS) =>
 grdW Tryz.prog q o l false (vS (Op.unary UnOp.not n)) fun r =>
 rdW Tryz.prog q o (pickN l (B true) r) fun s =>
 chk (isA g) (un (subOf g 0 36) fun t =>
 un (gSel s false t) fun v =>
 jn (fun (y : Value) (z : World) (A : XS) =>
 grdW Tryz.prog A z s false (vS (Op.unary UnOp.not y)) fun C =>
 rdW Tryz.prog A z (pickN s (B true) C) fun D =>
 un (gSel D false (.agg #[(I p0_0), (I p0_1), (I p0_2), (I p0_3), (I p0_4), (I p0_5), (I p0_6), (I p0_7), (I p0_8), (I p0_9), (I p0_10), (I p0_11), (I p0_12), (I p0_13), (I p0_14), (B p0_15), (I p0_16), (I p0_17), p0_18, p0_19, p0_20, p0_21, p0_22, p0_23, (I p0_24), (I p0_25), (.float .f64 p0_26), (.float .f64 p0_27), (I p0_28), (I p0_29), (I p0_30), (I p0_31), (I p0_32), (I p0_33), p0_34, p0_35])) fun E =>
 jn (fun (F : Value) (G : World) (H : XS) =>
 grdW Tryz.prog H G D false (vS (Op.unary UnOp.not F)) fun L =>
 rdW Tryz.prog H G (pickN D (B true) L) fun M =>
 (condW M
 (fin R H G (I 4))
 (fin R H G (I 0)))) fun N =>
 (gE D false (eC Tryz.prog R A z true 102 #[E] N) (N undef z A))) fun O =>
 (gE s false (eC Tryz.prog R q o true 101 #[v] O) (O undef o q)))) fun Q =>
 (gE l false (eC Tryz.prog R k j true 100 #[m] Q) (Q undef j k))))))))
theorem ok_msgs_May {R : Ending → World → Prop} {w0 : World} {p0_0 p0_1 p0_2 p0_3 p0_4 p0_5 p0_6 p0_7 p0_8 p0_9 p0_10 p0_11 p0_12 p0_13 p0_14 : Int} {p0_15 : Bool} {p0_16 p0_17 : Int} {p0_18 p0_19 p0_20 p0_21 p0_22 p0_23 : Value} {p0_24 p0_25 : Int} {p0_26 p0_27 : Nat} {p0_28 p0_29 p0_30 p0_31 p0_32 p0_33 : Int} {p0_34 p0_35 : Value} (h : vc_msgs_May R w0 (old w0) p0_0 p0_1 p0_2 p0_3 p0_4 p0_5 p0_6 p0_7 p0_8 p0_9 p0_10 p0_11 p0_12 p0_13 p0_14 p0_15 p0_16 p0_17 p0_18 p0_19 p0_20 p0_21 p0_22 p0_23 p0_24 p0_25 p0_26 p0_27 p0_28 p0_29 p0_30 p0_31 p0_32 p0_33 p0_34 p0_35) : Calls Tryz.prog 52 #[(.agg #[(I p0_0), (I p0_1), (I p0_2), (I p0_3), (I p0_4), (I p0_5), (I p0_6), (I p0_7), (I p0_8), (I p0_9), (I p0_10), (I p0_11), (I p0_12), (I p0_13), (I p0_14), (B p0_15), (I p0_16), (I p0_17), p0_18, p0_19, p0_20, p0_21, p0_22, p0_23, (I p0_24), (I p0_25), (.float .f64 p0_26), (.float .f64 p0_27), (I p0_28), (I p0_29), (I p0_30), (I p0_31), (I p0_32), (I p0_33), p0_34, p0_35])] w0 R :=
  calls_of_vc (pl := pl_msgs_May) Tryz.func52 (by kernel_rfl) (by kernel_rfl) h
noncomputable def pl_hlc_Compare : Plan := ⟨37, [(2, (Tryz.prog.cellsOf 35)), (3, (Tryz.prog.cellsOf 35))], [7, 9, 11, 13, 20, 22, 25, 27], [0, 1, 4, 5, 6, 15, 19, 29, 33], [], []⟩
def vc_hlc_Compare (R : Ending → World → Prop) (w0 : World) (X0 : XS) (p0_0 p0_1 p0_2 p1_0 p1_1 p1_2 : Int) : Prop :=
 (((jn (fun (a b : Value) =>
 (rdV Tryz.prog X0 w0 (binOp .lss 3 a b) fun c =>
 (condW c
 ((fin R X0 w0 (I (-1))))
 (rdV Tryz.prog X0 w0 (binOp .gtr 3 a b) fun d =>
 (condW d
 (fin R X0 w0 (I 1))
 (fin R X0 w0 (I 0))))))) fun e =>
 rdV Tryz.prog X0 w0 (binS .neq 3 (.tmp 16) (.tmp 17) (I p0_0) (I p1_0)) fun g =>
 (condW g
 (e (I p0_0) (I p1_0))
 (rdV Tryz.prog X0 w0 (binS .neq 3 (.tmp 21) (.tmp 23) (I p0_1) (I p1_1)) fun h =>
 (condW h
 (e (I p0_1) (I p1_1))
 (e (I p0_2) (I p1_2))))))))
theorem ok_hlc_Compare {R : Ending → World → Prop} {w0 : World} {p0_0 p0_1 p0_2 p1_0 p1_1 p1_2 : Int} (h : vc_hlc_Compare R w0 (old w0) p0_0 p0_1 p0_2 p1_0 p1_1 p1_2) : Calls Tryz.prog 53 #[(.agg #[(I p0_0), (I p0_1), (I p0_2)]), (.agg #[(I p1_0), (I p1_1), (I p1_2)])] w0 R :=
  calls_of_vc (pl := pl_hlc_Compare) Tryz.func53 (by kernel_rfl) (by kernel_rfl) h
noncomputable def pl_sink_Node_keep : Plan := ⟨36, [(3, (Tryz.prog.cellsOf 117))], [], [0, 1, 4, 5, 6, 7, 8, 15, 26], [], []⟩
def vc_sink_Node_keep (R : Ending → World → Prop) (w0 : World) (X0 : XS) (p0 : Value) (p1_0 p1_1 p1_2 p1_3 p1_4 p1_5 p1_6 p1_7 p1_8 p1_9 : Int) (p1_10 : Bool) (p1_11 : Int) (p1_12 : Nat) (p1_13 p1_14 p1_15 p1_16 : Value) (p1_17 p1_18 : Int) (p1_19 p1_20 : Nat) (p1_21 p1_22 p1_23 p1_24 p1_25 p1_26 : Int) (p1_27 p1_28 : Value) : Prop :=
 (eC Tryz.prog R X0 w0 true 91 #[(.agg #[(I p1_0), (I p1_1), (I p1_2), (I p1_3), (I p1_4), (I p1_5), (I p1_6), (I p1_7), (I p1_8), (I p1_9), (B p1_10), (I p1_11), (.float .f64 p1_12), p1_13, p1_14, p1_15, p1_16, (I p1_17), (I p1_18), (.float .f64 p1_19), (.float .f64 p1_20), (I p1_21), (I p1_22), (I p1_23), (I p1_24), (I p1_25), (I p1_26), p1_27, p1_28])] fun a b c =>
 rdV Tryz.prog c b (Instr.extract a 0) fun d =>
 rdV Tryz.prog c b (Instr.extract a 1) fun e =>
 (((jn (fun (g h : Value) (i : World) (j : XS) =>
 (jn (fun (k : Value) (l : World) (m : XS) =>
 eC Tryz.prog R m l true 57 #[p0, k] fun n o q =>
 (fin R q o (Value.tuple #[h, n]))) fun r =>
 rdV Tryz.prog j i (binS .eql 29 (.tmp 25) (.const (I 0)) g (I 0)) fun s =>
 (condW s
 (rdW Tryz.prog j i (nilN p0) fun t =>
 rdV Tryz.prog j i (fld 112 0 0 1 t) fun v =>
 rdV Tryz.prog j i (ld1 107 v) fun y =>
 eC Tryz.prog R j i true 104 #[y] fun z A C =>
 (r z A C))
 (r g i j)))) fun D =>
 rdV Tryz.prog c b (binS .eql 29 (.tmp 14) (.const (I 0)) e (I 0)) fun E =>
 (condW E
 (rdW Tryz.prog c b (nilN p0) fun F =>
 rdV Tryz.prog c b (fld 112 0 0 1 F) fun G =>
 rdV Tryz.prog c b (ld1 107 G) fun H =>
 eC Tryz.prog R c b true 103 #[H, d] fun L M N =>
 rdV Tryz.prog N M (Instr.extract L 0) fun O =>
 rdV Tryz.prog N M (Instr.extract L 1) fun Q =>
 (D Q O M N))
 (D e (I 0) b c))))))
theorem ok_sink_Node_keep {R : Ending → World → Prop} {w0 : World} {p0 : Value} {p1_0 p1_1 p1_2 p1_3 p1_4 p1_5 p1_6 p1_7 p1_8 p1_9 : Int} {p1_10 : Bool} {p1_11 : Int} {p1_12 : Nat} {p1_13 p1_14 p1_15 p1_16 : Value} {p1_17 p1_18 : Int} {p1_19 p1_20 : Nat} {p1_21 p1_22 p1_23 p1_24 p1_25 p1_26 : Int} {p1_27 p1_28 : Value} (h : vc_sink_Node_keep R w0 (old w0) p0 p1_0 p1_1 p1_2 p1_3 p1_4 p1_5 p1_6 p1_7 p1_8 p1_9 p1_10 p1_11 p1_12 p1_13 p1_14 p1_15 p1_16 p1_17 p1_18 p1_19 p1_20 p1_21 p1_22 p1_23 p1_24 p1_25 p1_26 p1_27 p1_28) : Calls Tryz.prog 54 #[p0, (.agg #[(I p1_0), (I p1_1), (I p1_2), (I p1_3), (I p1_4), (I p1_5), (I p1_6), (I p1_7), (I p1_8), (I p1_9), (B p1_10), (I p1_11), (.float .f64 p1_12), p1_13, p1_14, p1_15, p1_16, (I p1_17), (I p1_18), (.float .f64 p1_19), (.float .f64 p1_20), (I p1_21), (I p1_22), (I p1_23), (I p1_24), (I p1_25), (I p1_26), p1_27, p1_28])] w0 R :=
  calls_of_vc (pl := pl_sink_Node_keep) Tryz.func54 (by kernel_rfl) (by kernel_rfl) h
noncomputable def pl_sink_Node_apply : Plan := ⟨53, [(5, (Tryz.prog.cellsOf 33)), (6, (Tryz.prog.cellsOf 35)), (9, (Tryz.prog.cellsOf 53))], [16, 17, 24, 30, 32], [0, 1, 2, 3, 10, 11, 12, 13, 19], [], [12]⟩
def vc_sink_Node_apply (R : Ending → World → Prop) (w0 : World) (X0 : XS) (p0 : Value) (p1_0 p1_1 p1_2 p2_0 p2_1 p2_2 : Int) (p3 : Value) : Prop :=
 (rdV Tryz.prog X0 w0 (lnS 23 3 p3) fun a =>
 (lp1 X0 w0 (I 0) 12 fun b c d e g =>
 rdV Tryz.prog g e (binOp .lss 3 d a) fun h =>
 (condW h
 (((jn (fun (i : World) (j : XS) =>
 (rdV Tryz.prog j i (binOp .add 3 d (I 1)) fun k =>
 nx1 b c k i j)) fun l =>
 rdV Tryz.prog g e (ixS 23 4 p3 d) fun m =>
 rdV Tryz.prog g e (ldA 53 4 m) fun n =>
 un (Value.agg (Value.cells n)) fun o =>
 chk (List.length (Array.toList (Value.cells n)) == 4) (chk (List.all (Array.toList (Value.cells n)) one) ((chk (isA o) (un (cellOf o 1) fun q =>
 rdV Tryz.prog g e (binS .eql 3 (.tmp 18) (.const (I 0)) q (I 0)) fun r =>
 (condW r
 (rdW Tryz.prog g e (nilN p0) fun s =>
 rdV Tryz.prog g e (fld 112 4 4 1 s) fun t =>
 rdV Tryz.prog g e (ld1 110 t) fun v =>
 chk (isA o) (un (cellOf o 0) fun y =>
 eV Tryz.prog R g e true (Builtin.delete_ #[110, 9] 0 #[v, y]) fun _ z A =>
 (l z A)))
 ((rdW Tryz.prog g e (nilN p0) fun C =>
 rdV Tryz.prog g e (fld 112 4 4 1 C) fun D =>
 rdV Tryz.prog g e (ld1 110 D) fun E =>
 chk (isA o) (un (cellOf o 0) fun F =>
 un (subOf o 1 3) fun G =>
 eU Tryz.prog R g e true (Instr.mapUpdate 110 E F G) fun _ H L =>
 (l H L))))))))))))
 (((rdW Tryz.prog g e (nilN p0) fun M =>
 rdV Tryz.prog g e (fld 112 5 5 3 M) fun N =>
 eU Tryz.prog R g e true (st1 35 3 N (.agg #[(I p2_0), (I p2_1), (I p2_2)])) fun _ O Q =>
 (rdW Tryz.prog Q O (nilN p0) fun S =>
 rdV Tryz.prog Q O (fld 112 6 8 1 S) fun T =>
 rdV Tryz.prog Q O (ld1 63 T) fun U =>
 eC Tryz.prog R Q O false 60 #[p3] fun V Y Z =>
 rdV Tryz.prog Z Y (bld 73 #[(I p1_0), (I p1_1), (I p1_2), (I p2_0), (I p2_1), (I p2_2), V] #[(0, (.agg #[(I p1_0), (I p1_1), (I p1_2)])), (1, (.agg #[(I p2_0), (I p2_1), (I p2_2)])), (2, V)]) fun a0 =>
 eV Tryz.prog R Z Y false (bsS 63 73 7 1 #[(0, a0)]) fun b0 c0 d0 =>
 eV Tryz.prog R d0 c0 true (apS 63 73 7 72 63 U b0) fun e0 g0 h0 =>
 rdW Tryz.prog h0 g0 (nilN p0) fun i0 =>
 rdV Tryz.prog h0 g0 (fld 112 6 8 1 i0) fun j0 =>
 eU Tryz.prog R h0 g0 true (st1 63 1 j0 e0) fun _ k0 l0 =>
 fin R l0 k0 (Value.tuple #[]))))))))
theorem ok_sink_Node_apply {R : Ending → World → Prop} {w0 : World} {p0 : Value} {p1_0 p1_1 p1_2 p2_0 p2_1 p2_2 : Int} {p3 : Value} (h : vc_sink_Node_apply R w0 (old w0) p0 p1_0 p1_1 p1_2 p2_0 p2_1 p2_2 p3) : Calls Tryz.prog 55 #[p0, (.agg #[(I p1_0), (I p1_1), (I p1_2)]), (.agg #[(I p2_0), (I p2_1), (I p2_2)]), p3] w0 R :=
  calls_of_vc (pl := pl_sink_Node_apply) Tryz.func55 (by kernel_rfl) (by kernel_rfl) h
noncomputable def pl_sink_Node_fall : Plan := ⟨23, [], [], [0, 1, 4, 6], [], []⟩
def vc_sink_Node_fall (R : Ending → World → Prop) (w0 : World) (X0 : XS) (p0 : Value) (p1 : Int) : Prop :=
 ((jn (fun (a : World) (b : XS) =>
 (fin R b a (I p1))) fun c =>
 rdV Tryz.prog X0 w0 (binS .eql 29 (.tmp 5) (.const (I 12)) (I p1) (I 12)) fun d =>
 (condW d
 (rdW Tryz.prog X0 w0 (nilN p0) fun e =>
 rdV Tryz.prog X0 w0 (fld 112 3 3 1 e) fun g =>
 eU Tryz.prog R X0 w0 true (st1 4 1 g (B true)) fun _ h i =>
 (rdV Tryz.prog i h (bld 35 #[(I 0), (I 0), (I 0)] #[]) fun j =>
 rdW Tryz.prog i h (nilN p0) fun k =>
 rdV Tryz.prog i h (fld 112 5 5 3 k) fun l =>
 eU Tryz.prog R i h true (st1 35 3 l j) fun _ m n =>
 rdW Tryz.prog n m (nilN p0) fun o =>
 rdV Tryz.prog n m (fld 112 4 4 1 o) fun q =>
 eU Tryz.prog R n m true (st1 110 1 q (Value.map none)) fun _ r s =>
 rdW Tryz.prog s r (nilN p0) fun t =>
 rdV Tryz.prog s r (fld 112 6 8 1 t) fun v =>
 eU Tryz.prog R s r true (st1 63 1 v (.slice none 0 0)) fun _ y z =>
 (rdV Tryz.prog z y (bld 184 #[] #[]) fun A =>
 rdV Tryz.prog z y (Instr.makeInterface 184 A) fun C =>
 eV Tryz.prog R z y true (Instr.panic C) fun _ D E =>
 (c D E))))
 (c w0 X0))))
theorem ok_sink_Node_fall {R : Ending → World → Prop} {w0 : World} {p0 : Value} {p1 : Int} (h : vc_sink_Node_fall R w0 (old w0) p0 p1) : Calls Tryz.prog 57 #[p0, (I p1)] w0 R :=
  calls_of_vc (pl := pl_sink_Node_fall) Tryz.func57 (by kernel_rfl) (by kernel_rfl) h
noncomputable def pl_wal_Log_Trim : Plan := ⟨55, [], [], [0, 1, 4, 5, 24, 45], [12, 13, 14, 15, 16, 17, 18, 19, 20, 21, 22, 23], []⟩
def vc_wal_Log_Trim (R : Ending → World → Prop) (w0 : World) (X0 : XS) (p0 : Value) (p1 : Int) : Prop :=
 (lp0 X0 w0 fun a b c d =>
 rdW Tryz.prog d c (nilN p0) fun e =>
 rdV Tryz.prog d c (fld 158 3 3 1 e) fun g =>
 rdV Tryz.prog d c (ld1 156 g) fun h =>
 rdV Tryz.prog d c (lnS 156 3 h) fun i =>
 rdV Tryz.prog d c (binOp .gtr 3 i (I 1)) fun j =>
 un (gSel j true p0) fun k =>
 grdW Tryz.prog d c j true (nilN k) fun l =>
 grdW Tryz.prog d c j true (vS (fld 158 3 3 1 l)) fun m =>
 grdW Tryz.prog d c j true (vS (ld1 156 m)) fun n =>
 grdW Tryz.prog d c j true (vS (ixS 156 1 n (I 1))) fun o =>
 grdW Tryz.prog d c j true (vS (ld1 164 o)) fun q =>
 grdW Tryz.prog d c j true (nilN q) fun r =>
 grdW Tryz.prog d c j true (vS (fld 163 0 0 1 r)) fun s =>
 grdW Tryz.prog d c j true (vS (ld1 3 s)) fun t =>
 un (gSel j true (I p1)) fun v =>
 grdW Tryz.prog d c j true (vS (binOp .leq 3 t v)) fun y =>
 rdW Tryz.prog d c (pickN j y (B false)) fun z =>
 (condW z
 ((rdW Tryz.prog d c (nilN p0) fun A =>
 rdV Tryz.prog d c (fld 158 0 0 1 A) fun C =>
 rdV Tryz.prog d c (ld1 26 C) fun D =>
 rdW Tryz.prog d c (nilN p0) fun E =>
 rdV Tryz.prog d c (fld 158 1 1 1 E) fun F =>
 rdV Tryz.prog d c (ld1 9 F) fun G =>
 rdW Tryz.prog d c (nilN p0) fun H =>
 rdV Tryz.prog d c (fld 158 3 3 1 H) fun L =>
 rdV Tryz.prog d c (ld1 156 L) fun M =>
 rdV Tryz.prog d c (ixS 156 1 M (I 0)) fun N =>
 rdV Tryz.prog d c (ld1 164 N) fun O =>
 rdW Tryz.prog d c (nilN O) fun Q =>
 rdV Tryz.prog d c (fld 163 0 0 1 Q) fun S =>
 rdV Tryz.prog d c (ld1 3 S) fun T =>
 eC Tryz.prog R d c false 106 #[G, T] fun U V Y =>
 eC Tryz.prog R Y V true 105 #[D, U] fun Z a0 b0 =>
 (rdV Tryz.prog b0 a0 (binS .neq 29 (.tmp 44) (.const (I 0)) Z (I 0)) fun c0 =>
 (condW c0
 (fin R b0 a0 Z)
 ((rdW Tryz.prog b0 a0 (nilN p0) fun d0 =>
 rdV Tryz.prog b0 a0 (fld 158 3 3 1 d0) fun e0 =>
 rdV Tryz.prog b0 a0 (ld1 156 e0) fun g0 =>
 rdV Tryz.prog b0 a0 (Instr.sliceAt 156 g0 (some (I 1)) none none) fun h0 =>
 rdW Tryz.prog b0 a0 (nilN p0) fun i0 =>
 rdV Tryz.prog b0 a0 (fld 158 3 3 1 i0) fun j0 =>
 eU Tryz.prog R b0 a0 true (st1 156 1 j0 h0) fun _ k0 l0 =>
 (nx0 a b k0 l0)))))))
 (fin R d c (I 0))))
theorem ok_wal_Log_Trim {R : Ending → World → Prop} {w0 : World} {p0 : Value} {p1 : Int} (h : vc_wal_Log_Trim R w0 (old w0) p0 p1) : Calls Tryz.prog 58 #[p0, (I p1)] w0 R :=
  calls_of_vc (pl := pl_wal_Log_Trim) Tryz.func58 (by kernel_rfl) (by kernel_rfl) h
noncomputable def pl_maps_Keys_map_string_disk_file_string_disk_file : Plan := ⟨4, [], [], [0, 1, 2], [], []⟩
def vc_maps_Keys_map_string_disk_file_string_disk_file (R : Ending → World → Prop) (w0 : World) (X0 : XS) (p0 : Value) : Prop :=
 eV Tryz.prog R X0 w0 true (Instr.box 104 p0) fun a b c =>
 (rdV Tryz.prog c b (Instr.makeFunc (Fn.func 107) #[] #[a]) fun d =>
 (fin R c b d))
theorem ok_maps_Keys_map_string_disk_file_string_disk_file {R : Ending → World → Prop} {w0 : World} {p0 : Value} (h : vc_maps_Keys_map_string_disk_file_string_disk_file R w0 (old w0) p0) : Calls Tryz.prog 59 #[p0] w0 R :=
  calls_of_vc (pl := pl_maps_Keys_map_string_disk_file_string_disk_file) Tryz.func59 (by kernel_rfl) (by kernel_rfl) h
noncomputable def pl_slices_Clone_sl_api_Write_api_Write : Plan := ⟨8, [], [], [0, 2, 4], [], []⟩
def vc_slices_Clone_sl_api_Write_api_Write (R : Ending → World → Prop) (w0 : World) (X0 : XS) (p0 : Value) : Prop :=
 (rdV Tryz.prog X0 w0 (binS .eql 23 (.tmp 3) (.const (.slice none 0 0)) p0 (.slice none 0 0)) fun a =>
 (condW a
 (fin R X0 w0 (.slice none 0 0))
 (eV Tryz.prog R X0 w0 true (bsS 23 53 4 0 #[]) fun b c d =>
 eV Tryz.prog R d c true (apS 23 53 4 48 23 b p0) fun e g h =>
 (fin R h g e))))
theorem ok_slices_Clone_sl_api_Write_api_Write {R : Ending → World → Prop} {w0 : World} {p0 : Value} (h : vc_slices_Clone_sl_api_Write_api_Write R w0 (old w0) p0) : Calls Tryz.prog 60 #[p0] w0 R :=
  calls_of_vc (pl := pl_slices_Clone_sl_api_Write_api_Write) Tryz.func60 (by kernel_rfl) (by kernel_rfl) h
noncomputable def pl_raceref_WeighMsg : Plan := ⟨72, [(2, (Tryz.prog.cellsOf 48))], [7, 11, 18, 25, 34, 43, 55, 66], [0, 1, 4, 5, 6, 51], [47, 48, 49, 50], [5, 6]⟩
def vc_raceref_WeighMsg (R : Ending → World → Prop) (w0 : World) (X0 : XS) (_p0_0 _p0_1 _p0_2 _p0_3 _p0_4 _p0_5 _p0_6 _p0_7 _p0_8 _p0_9 _p0_10 _p0_11 _p0_12 _p0_13 _p0_14 : Int) (_p0_15 : Bool) (_p0_16 _p0_17 : Int) (p0_18 p0_19 p0_20 p0_21 p0_22 p0_23 : Value) (p0_24 p0_25 : Int) (p0_26 p0_27 : Nat) (p0_28 p0_29 p0_30 p0_31 p0_32 p0_33 : Int) (p0_34 p0_35 : Value) (p1 : Int) : Prop :=
 (eC Tryz.prog R X0 w0 false 23 #[p0_18, (I p1)] fun a b c =>
 eC Tryz.prog R c b true 108 #[p0_19, (I p1)] fun d e g =>
 eC Tryz.prog R g e true 40 #[a, d, (I p1)] fun h i j =>
 (eC Tryz.prog R j i true 10 #[p0_20, (I p1)] fun k l m =>
 eC Tryz.prog R m l true 40 #[h, k, (I p1)] fun n o q =>
 (rdV Tryz.prog q o (lnS 22 3 p0_21) fun r =>
 rdV Tryz.prog q o (binOp .add 3 (I p1) (I 1)) fun s =>
 rdV Tryz.prog q o (Builtin.min_ #[3, 3] 3 #[r, s]) fun t =>
 eC Tryz.prog R q o true 40 #[n, t, (I p1)] fun v y z =>
 (rdV Tryz.prog z y (lnS 38 3 p0_22) fun A =>
 rdV Tryz.prog z y (binOp .add 3 (I p1) (I 1)) fun C =>
 rdV Tryz.prog z y (Builtin.min_ #[3, 3] 3 #[A, C]) fun D =>
 eC Tryz.prog R z y true 40 #[v, D, (I p1)] fun E F G =>
 ((lp2 G F (I 0) E 6 5 fun H L M N O Q =>
 rdV Tryz.prog Q O (lnS 39 3 p0_23) fun S =>
 rdV Tryz.prog Q O (binOp .lss 3 M S) fun T =>
 un (gSel T true N) fun U =>
 un (gSel T true (I p1)) fun V =>
 grdW Tryz.prog Q O T true (vS (binOp .leq 3 U V)) fun Y =>
 rdW Tryz.prog Q O (pickN T Y (B false)) fun Z =>
 (condW Z
 ((rdV Tryz.prog Q O (ixS 39 29 p0_23 M) fun a0 =>
 rdV Tryz.prog Q O (ldA 117 29 a0) fun b0 =>
 eC Tryz.prog R Q O true 109 #[b0, (I p1)] fun c0 d0 e0 =>
 eC Tryz.prog R e0 d0 true 40 #[N, c0, (I p1)] fun g0 h0 i0 =>
 ((rdV Tryz.prog i0 h0 (binOp .add 3 M (I 1)) fun j0 =>
 nx2 H L j0 g0 h0 i0))))
 (((rdV Tryz.prog Q O (binOp .add 3 N (I 1)) fun k0 =>
 eC Tryz.prog R Q O true 110 #[(.agg #[(I p0_24), (I p0_25), (.float .f64 p0_26), (.float .f64 p0_27), (I p0_28), (I p0_29), (I p0_30), (I p0_31), (I p0_32), (I p0_33), p0_34, p0_35]), (I p1)] fun l0 m0 n0 =>
 eC Tryz.prog R n0 m0 true 40 #[k0, l0, (I p1)] fun o0 q0 r0 =>
 (fin R r0 q0 o0)))))))))))
theorem ok_raceref_WeighMsg {R : Ending → World → Prop} {w0 : World} {p0_0 p0_1 p0_2 p0_3 p0_4 p0_5 p0_6 p0_7 p0_8 p0_9 p0_10 p0_11 p0_12 p0_13 p0_14 : Int} {p0_15 : Bool} {p0_16 p0_17 : Int} {p0_18 p0_19 p0_20 p0_21 p0_22 p0_23 : Value} {p0_24 p0_25 : Int} {p0_26 p0_27 : Nat} {p0_28 p0_29 p0_30 p0_31 p0_32 p0_33 : Int} {p0_34 p0_35 : Value} {p1 : Int} (h : vc_raceref_WeighMsg R w0 (old w0) p0_0 p0_1 p0_2 p0_3 p0_4 p0_5 p0_6 p0_7 p0_8 p0_9 p0_10 p0_11 p0_12 p0_13 p0_14 p0_15 p0_16 p0_17 p0_18 p0_19 p0_20 p0_21 p0_22 p0_23 p0_24 p0_25 p0_26 p0_27 p0_28 p0_29 p0_30 p0_31 p0_32 p0_33 p0_34 p0_35 p1) : Calls Tryz.prog 61 #[(.agg #[(I p0_0), (I p0_1), (I p0_2), (I p0_3), (I p0_4), (I p0_5), (I p0_6), (I p0_7), (I p0_8), (I p0_9), (I p0_10), (I p0_11), (I p0_12), (I p0_13), (I p0_14), (B p0_15), (I p0_16), (I p0_17), p0_18, p0_19, p0_20, p0_21, p0_22, p0_23, (I p0_24), (I p0_25), (.float .f64 p0_26), (.float .f64 p0_27), (I p0_28), (I p0_29), (I p0_30), (I p0_31), (I p0_32), (I p0_33), p0_34, p0_35]), (I p1)] w0 R :=
  calls_of_vc (pl := pl_raceref_WeighMsg) Tryz.func61 (by kernel_rfl) (by kernel_rfl) h
noncomputable def pl_slices_Contains_sl_string_string : Plan := ⟨9, [], [], [0, 1, 4], [], []⟩
def vc_slices_Contains_sl_string_string (R : Ending → World → Prop) (w0 : World) (X0 : XS) (p0 : Value) (p1 : ByteArray) : Prop :=
 (eC Tryz.prog R X0 w0 true 371 #[p0, (.string p1)] fun a b c =>
 rdV Tryz.prog c b (binOp .geq 3 a (I 0)) fun d =>
 (fin R c b d))
theorem ok_slices_Contains_sl_string_string {R : Ending → World → Prop} {w0 : World} {p0 : Value} {p1 : ByteArray} (h : vc_slices_Contains_sl_string_string R w0 (old w0) p0 p1) : Calls Tryz.prog 351 #[p0, (.string p1)] w0 R :=
  calls_of_vc (pl := pl_slices_Contains_sl_string_string) Tryz.func351 (by kernel_rfl) (by kernel_rfl) h
noncomputable def pl_mvcc_Store_Newest : Plan := ⟨9, [(4, (Tryz.prog.cellsOf 266))], [], [0, 1], [], []⟩
def vc_mvcc_Store_Newest (R : Ending → World → Prop) (w0 : World) (X0 : XS) (p0 : Value) (p1 : ByteArray) : Prop :=
 (rdV Tryz.prog X0 w0 (bld 35 #[(I 0), (I 0), (I 0)] #[]) fun a =>
 eC Tryz.prog R X0 w0 true 372 #[p0, (.string p1), a, (B true)] fun b c d =>
 un (Value.agg (Value.cells b)) fun e =>
 chk (List.length (Array.toList (Value.cells b)) == 7) (chk (List.all (Array.toList (Value.cells b)) one) (un (subOf e 0 7) fun g =>
 chk (List.all [e] isA) (fin R d c g))))
theorem ok_mvcc_Store_Newest {R : Ending → World → Prop} {w0 : World} {p0 : Value} {p1 : ByteArray} (h : vc_mvcc_Store_Newest R w0 (old w0) p0 p1) : Calls Tryz.prog 352 #[p0, (.string p1)] w0 R :=
  calls_of_vc (pl := pl_mvcc_Store_Newest) Tryz.func352 (by kernel_rfl) (by kernel_rfl) h
noncomputable def pl_slices_Clone_sl_string_string : Plan := ⟨8, [], [], [0, 2, 4], [], []⟩
def vc_slices_Clone_sl_string_string (R : Ending → World → Prop) (w0 : World) (X0 : XS) (p0 : Value) : Prop :=
 (rdV Tryz.prog X0 w0 (binS .eql 36 (.tmp 3) (.const (.slice none 0 0)) p0 (.slice none 0 0)) fun a =>
 (condW a
 (fin R X0 w0 (.slice none 0 0))
 (eV Tryz.prog R X0 w0 true (bsS 36 9 1 0 #[]) fun b c d =>
 eV Tryz.prog R d c true (apS 36 9 1 16 36 b p0) fun e g h =>
 (fin R h g e))))
theorem ok_slices_Clone_sl_string_string {R : Ending → World → Prop} {w0 : World} {p0 : Value} (h : vc_slices_Clone_sl_string_string R w0 (old w0) p0) : Calls Tryz.prog 353 #[p0] w0 R :=
  calls_of_vc (pl := pl_slices_Clone_sl_string_string) Tryz.func353 (by kernel_rfl) (by kernel_rfl) h
noncomputable def pl_slices_ContainsFunc_sl_api_Write_api_Write : Plan := ⟨9, [], [], [0, 1, 4], [], []⟩
def vc_slices_ContainsFunc_sl_api_Write_api_Write (R : Ending → World → Prop) (w0 : World) (X0 : XS) (p0 p1 : Value) : Prop :=
 (eC Tryz.prog R X0 w0 true 379 #[p0, p1] fun a b c =>
 rdV Tryz.prog c b (binOp .geq 3 a (I 0)) fun d =>
 (fin R c b d))
theorem ok_slices_ContainsFunc_sl_api_Write_api_Write {R : Ending → World → Prop} {w0 : World} {p0 p1 : Value} (h : vc_slices_ContainsFunc_sl_api_Write_api_Write R w0 (old w0) p0 p1) : Calls Tryz.prog 369 #[p0, p1] w0 R :=
  calls_of_vc (pl := pl_slices_ContainsFunc_sl_api_Write_api_Write) Tryz.func369 (by kernel_rfl) (by kernel_rfl) h
noncomputable def pl_mvcc_writes_c1 : Plan := ⟨8, [(2, (Tryz.prog.cellsOf 53))], [4], [0, 1, 3], [], []⟩
def vc_mvcc_writes_c1 (R : Ending → World → Prop) (w0 : World) (X0 : XS) (p0_0 : ByteArray) (_p0_1 : Int) (_p0_2 : Nat) (_p0_3 : ByteArray) (c0 : Value) : Prop :=
 (rdV Tryz.prog X0 w0 (ld1 9 c0) fun a =>
 rdV Tryz.prog X0 w0 (binS .eql 9 (.tmp 5) (.tmp 6) (.string p0_0) a) fun b =>
 (fin R X0 w0 b))
theorem ok_mvcc_writes_c1 {R : Ending → World → Prop} {w0 : World} {p0_0 : ByteArray} {p0_1 : Int} {p0_2 : Nat} {p0_3 : ByteArray} {c0 : Value} (h : vc_mvcc_writes_c1 R w0 (old w0) p0_0 p0_1 p0_2 p0_3 c0) : Calls Tryz.prog 370 #[(.agg #[(.string p0_0), (I p0_1), (.float .f64 p0_2), (.string p0_3)]), c0] w0 R :=
  calls_of_vc (pl := pl_mvcc_writes_c1) Tryz.func370 (by kernel_rfl) (by kernel_rfl) h
noncomputable def pl_slices_Index_sl_string_string : Plan := ⟨19, [], [], [0, 1, 4, 5, 7, 8, 9, 16], [], [8]⟩
def vc_slices_Index_sl_string_string (R : Ending → World → Prop) (w0 : World) (X0 : XS) (p0 : Value) (p1 : ByteArray) : Prop :=
 (rdV Tryz.prog X0 w0 (lnS 36 3 p0) fun a =>
 (lp1 X0 w0 (I 0) 8 fun b c d e g =>
 rdV Tryz.prog g e (binOp .lss 3 d a) fun h =>
 (condW h
 (((rdV Tryz.prog g e (ixS 36 1 p0 d) fun i =>
 rdV Tryz.prog g e (ld1 9 i) fun j =>
 rdV Tryz.prog g e (binS .eql 9 (.tmp 11) (.tmp 15) (.string p1) j) fun k =>
 (condW k
 (fin R g e d)
 (((rdV Tryz.prog g e (binOp .add 3 d (I 1)) fun l =>
 nx1 b c l e g)))))))
 ((((fin R g e (I (-1)))))))))
theorem ok_slices_Index_sl_string_string {R : Ending → World → Prop} {w0 : World} {p0 : Value} {p1 : ByteArray} (h : vc_slices_Index_sl_string_string R w0 (old w0) p0 p1) : Calls Tryz.prog 371 #[p0, (.string p1)] w0 R :=
  calls_of_vc (pl := pl_slices_Index_sl_string_string) Tryz.func371 (by kernel_rfl) (by kernel_rfl) h
noncomputable def pl_mvcc_Store_newest : Plan := ⟨41, [(6, (Tryz.prog.cellsOf 35)), (8, (Tryz.prog.cellsOf 266)), (9, (Tryz.prog.cellsOf 266)), (11, (Tryz.prog.cellsOf 337))], [27, 33, 35, 37, 38], [0, 1, 2, 3, 19, 20, 21, 22, 32], [26, 28, 29, 30, 31], [9, 21]⟩
def vc_mvcc_Store_newest (R : Ending → World → Prop) (w0 : World) (X0 : XS) (p0 : Value) (p1 : ByteArray) (p2_0 p2_1 p2_2 : Int) (p3 : Bool) : Prop :=
 (rdV Tryz.prog X0 w0 (bld 266 #[(.string p1), (I 0), (.float .f64 0), (.string ⟨#[]⟩), (I 0), (I 0), (I 0)] #[(0, (.string p1))]) fun a =>
 un (Value.agg (Value.cells a)) fun b =>
 chk (List.length (Array.toList (Value.cells a)) == 7) (chk (List.all (Array.toList (Value.cells a)) one) ((rdW Tryz.prog X0 w0 (nilN p0) fun c =>
 rdV Tryz.prog X0 w0 (fld 382 0 0 1 c) fun d =>
 rdV Tryz.prog X0 w0 (ld1 379 d) fun e =>
 rdV Tryz.prog X0 w0 (Instr.lookup 379 e (.string p1) false) fun g =>
 rdV Tryz.prog X0 w0 (lnS 286 3 g) fun h =>
 (lp2 X0 w0 (I 0) b 21 9 fun i j k l m n =>
 rdV Tryz.prog n m (binOp .lss 3 k h) fun o =>
 (condW o
 (((jn (fun (q : Value) (r : World) (s : XS) =>
 (rdV Tryz.prog s r (binOp .add 3 k (I 1)) fun t =>
 nx2 i j t q r s)) fun v =>
 rdV Tryz.prog n m (ixS 286 6 g k) fun y =>
 rdV Tryz.prog n m (ldA 337 6 y) fun z =>
 un (Value.agg (Value.cells z)) fun A =>
 chk (List.length (Array.toList (Value.cells z)) == 6) (chk (List.all (Array.toList (Value.cells z)) one) ((chk (isA A) (un (subOf A 0 3) fun C =>
 un (gSel (B p3) false C) fun D =>
 un (gSel (B p3) false (.agg #[(I p2_0), (I p2_1), (I p2_2)])) fun E =>
 jn (fun (F : Value) (G : World) (H : XS) =>
 grdW Tryz.prog H G (B p3) false (vS (binOp .leq 3 F (I 0))) fun L =>
 rdW Tryz.prog H G (pickN (B p3) (B true) L) fun M =>
 (condW M
 (chk (isA A) (chk (isA l) (un (subOf A 3 3) fun N =>
 un (Value.agg (List.toArray (setL (Array.toList (Value.cells l)) 1 (Array.toList (Value.cells N))))) fun O =>
 chk (List.length (Array.toList (Value.cells N)) == 3) (chk (List.all (Array.toList (Value.cells N)) one) (un (Value.agg (List.toArray (setL (Array.toList (Value.cells O)) 4 (Array.toList (Value.cells C))))) fun Q =>
 chk (List.length (Array.toList (Value.cells C)) == 3) (chk (List.all (Array.toList (Value.cells C)) one) (v Q G H)))))))
 (v l G H))) fun S =>
 (gE (B p3) false (eC Tryz.prog R n m true 53 #[D, E] S) (S undef m n)))))))))
 (((chk (isA l) (un (subOf l 0 7) fun T =>
 un (Value.agg (Value.cells T)) fun U =>
 chk (List.length (Array.toList (Value.cells T)) == 7) (chk (List.all (Array.toList (Value.cells T)) one) (un (subOf U 0 7) fun V =>
 chk (List.all [U] isA) (fin R n m V)))))))))))))
theorem ok_mvcc_Store_newest {R : Ending → World → Prop} {w0 : World} {p0 : Value} {p1 : ByteArray} {p2_0 p2_1 p2_2 : Int} {p3 : Bool} (h : vc_mvcc_Store_newest R w0 (old w0) p0 p1 p2_0 p2_1 p2_2 p3) : Calls Tryz.prog 372 #[p0, (.string p1), (.agg #[(I p2_0), (I p2_1), (I p2_2)]), (B p3)] w0 R :=
  calls_of_vc (pl := pl_mvcc_Store_newest) Tryz.func372 (by kernel_rfl) (by kernel_rfl) h
noncomputable def pl_slices_IndexFunc_sl_api_Write_api_Write : Plan := ⟨19, [], [], [0, 1, 4, 5, 7, 8, 9, 16], [], [8]⟩
def vc_slices_IndexFunc_sl_api_Write_api_Write (R : Ending → World → Prop) (w0 : World) (X0 : XS) (p0 p1 : Value) : Prop :=
 (rdV Tryz.prog X0 w0 (lnS 23 3 p0) fun a =>
 (lp1 X0 w0 (I 0) 8 fun b c d e g =>
 rdV Tryz.prog g e (binOp .lss 3 d a) fun h =>
 (condW h
 (((rdV Tryz.prog g e (ixS 23 4 p0 d) fun i =>
 rdV Tryz.prog g e (ldA 53 4 i) fun j =>
 eF Tryz.prog R g e true p1 #[j] fun k l m =>
 (condW k
 (fin R m l d)
 (((rdV Tryz.prog m l (binOp .add 3 d (I 1)) fun n =>
 nx1 b c n l m)))))))
 ((((fin R g e (I (-1)))))))))
theorem ok_slices_IndexFunc_sl_api_Write_api_Write {R : Ending → World → Prop} {w0 : World} {p0 p1 : Value} (h : vc_slices_IndexFunc_sl_api_Write_api_Write R w0 (old w0) p0 p1) : Calls Tryz.prog 379 #[p0, p1] w0 R :=
  calls_of_vc (pl := pl_slices_IndexFunc_sl_api_Write_api_Write) Tryz.func379 (by kernel_rfl) (by kernel_rfl) h
noncomputable def pl_raceref22_Put : Plan := ⟨63, [(3, (Tryz.prog.cellsOf 53))], [17, 30, 31, 35, 37, 52], [0, 1, 4, 5, 6, 20, 33, 55], [11, 12, 13, 14, 15, 16, 18, 19, 46, 47, 48, 49, 50, 51, 53, 54], [5, 6]⟩
def vc_raceref22_Put (R : Ending → World → Prop) (w0 : World) (X0 : XS) (p0 : Value) (p1_0 : ByteArray) (p1_1 : Int) (p1_2 : Nat) (p1_3 : ByteArray) : Prop :=
 (((lp2 X0 w0 (I 0) (.slice none 0 0) 6 5 fun a b c d e g =>
 rdV Tryz.prog g e (lnS 54 3 p0) fun h =>
 rdV Tryz.prog g e (binOp .lss 3 c h) fun i =>
 un (gSel i true p0) fun j =>
 un (gSel i true c) fun k =>
 grdW Tryz.prog g e i true (vS (ixS 54 4 j k)) fun l =>
 grdW Tryz.prog g e i true (vS (fld 74 0 0 1 l)) fun m =>
 grdW Tryz.prog g e i true (vS (ld1 9 m)) fun n =>
 un (gSel i true (.string p1_0)) fun o =>
 grdW Tryz.prog g e i true (vS (binOp .lss 9 n o)) fun q =>
 rdW Tryz.prog g e (pickN i q (B false)) fun r =>
 (condW r
 ((rdV Tryz.prog g e (ixS 54 4 p0 c) fun s =>
 rdV Tryz.prog g e (ldA 74 4 s) fun t =>
 eV Tryz.prog R g e true (bsS 54 74 4 1 #[(0, t)]) fun v y z =>
 eV Tryz.prog R z y true (apS 54 74 4 48 54 d v) fun A C D =>
 (rdV Tryz.prog D C (binOp .add 3 c (I 1)) fun E =>
 (nx2 a b E A C D))))
 ((((jn (fun (F : Value) (G : World) (H : XS) =>
 (jn (fun (L : Value) =>
 rdV Tryz.prog H G (Instr.sliceAt 54 p0 (some L) none none) fun M =>
 eV Tryz.prog R H G true (apS 54 74 4 48 54 F M) fun N O Q =>
 (fin R Q O N)) fun S =>
 rdV Tryz.prog H G (lnS 54 3 p0) fun T =>
 rdV Tryz.prog H G (binOp .lss 3 c T) fun U =>
 un (gSel U true p0) fun V =>
 un (gSel U true c) fun Y =>
 grdW Tryz.prog H G U true (vS (ixS 54 4 V Y)) fun Z =>
 grdW Tryz.prog H G U true (vS (fld 74 0 0 1 Z)) fun a0 =>
 grdW Tryz.prog H G U true (vS (ld1 9 a0)) fun b0 =>
 un (gSel U true (.string p1_0)) fun c0 =>
 grdW Tryz.prog H G U true (vS (binS .eql 9 (.tmp 51) (.tmp 53) b0 c0)) fun d0 =>
 rdW Tryz.prog H G (pickN U d0 (B false)) fun e0 =>
 (condW e0
 (rdV Tryz.prog H G (binOp .add 3 c (I 1)) fun g0 =>
 (S g0))
 (S c)))) fun h0 =>
 rdV Tryz.prog g e (binS .neq 3 (.tmp 32) (.const (I 0)) (I p1_1) (I 0)) fun i0 =>
 (condW i0
 (rdV Tryz.prog g e (bld 74 #[(.string p1_0), (I p1_1), (.float .f64 p1_2), (.string p1_3)] #[(0, (.string p1_0)), (1, (.agg #[(I p1_1), (.float .f64 p1_2), (.string p1_3)]))]) fun j0 =>
 eV Tryz.prog R g e true (bsS 54 74 4 1 #[(0, j0)]) fun k0 l0 m0 =>
 eV Tryz.prog R m0 l0 true (apS 54 74 4 48 54 d k0) fun n0 o0 q0 =>
 (h0 n0 o0 q0))
 (h0 d e g))))))))))
theorem ok_raceref22_Put {R : Ending → World → Prop} {w0 : World} {p0 : Value} {p1_0 : ByteArray} {p1_1 : Int} {p1_2 : Nat} {p1_3 : ByteArray} (h : vc_raceref22_Put R w0 (old w0) p0 p1_0 p1_1 p1_2 p1_3) : Calls Tryz.prog 62 #[p0, (.agg #[(.string p1_0), (I p1_1), (.float .f64 p1_2), (.string p1_3)])] w0 R :=
  calls_of_vc (pl := pl_raceref22_Put) Tryz.func62 (by kernel_rfl) (by kernel_rfl) h
noncomputable def pl_raceref_Bits : Plan := ⟨10, [], [], [0, 1, 4], [], []⟩
def vc_raceref_Bits (R : Ending → World → Prop) (w0 : World) (X0 : XS) (p0 p1 : Nat) : Prop :=
 (eC Tryz.prog R X0 w0 true 111 #[(.float .f64 p0)] fun a b c =>
 eC Tryz.prog R c b true 111 #[(.float .f64 p1)] fun d e g =>
 rdV Tryz.prog g e (binS .eql 196 (.tmp 6) (.tmp 8) a d) fun h =>
 (fin R g e h))
theorem ok_raceref_Bits {R : Ending → World → Prop} {w0 : World} {p0 p1 : Nat} (h : vc_raceref_Bits R w0 (old w0) p0 p1) : Calls Tryz.prog 63 #[(.float .f64 p0), (.float .f64 p1)] w0 R :=
  calls_of_vc (pl := pl_raceref_Bits) Tryz.func63 (by kernel_rfl) (by kernel_rfl) h
noncomputable def pl_disk_name : Plan := ⟨11, [], [], [0, 2], [6, 7, 8, 9], []⟩
def vc_disk_name (R : Ending → World → Prop) (w0 : World) (X0 : XS) (p0 : ByteArray) : Prop :=
 (rdV Tryz.prog X0 w0 (lnT 9 3 (.string p0)) fun a =>
 rdV Tryz.prog X0 w0 (binOp .geq 3 a (I 1)) fun b =>
 un (gSel b true (.string p0)) fun c =>
 grdW Tryz.prog X0 w0 b true (vS (lnT 9 3 c)) fun d =>
 grdW Tryz.prog X0 w0 b true (vS (binOp .leq 3 d (I 20))) fun e =>
 rdW Tryz.prog X0 w0 (pickN b e (B false)) fun g =>
 (fin R X0 w0 g))
theorem ok_disk_name {R : Ending → World → Prop} {w0 : World} {p0 : ByteArray} (h : vc_disk_name R w0 (old w0) p0) : Calls Tryz.prog 73 #[(.string p0)] w0 R :=
  calls_of_vc (pl := pl_disk_name) Tryz.func73 (by kernel_rfl) (by kernel_rfl) h
noncomputable def pl_wal_Name : Plan := ⟨24, [], [], [0, 1, 4, 5, 6, 14], [9, 10, 11, 12, 17, 18, 19], []⟩
def vc_wal_Name (R : Ending → World → Prop) (w0 : World) (X0 : XS) (p0 : ByteArray) (p1 : Int) : Prop :=
 (rdV Tryz.prog X0 w0 (binS .eql 9 (.tmp 7) (.const (.string { data := #[] })) (.string p0) (.string { data := #[] })) fun a =>
 un (gSel a false (.string p0)) fun b =>
 grdW Tryz.prog X0 w0 a false (vS (lnT 9 3 b)) fun c =>
 grdW Tryz.prog X0 w0 a false (vS (binOp .gtr 3 c (I 11))) fun d =>
 rdW Tryz.prog X0 w0 (pickN a (B true) d) fun e =>
 (condW e
 ((fin R X0 w0 (Value.tuple #[(.string { data := #[] }), (I 10)])))
 (rdV Tryz.prog X0 w0 (binOp .lss 3 (I p1) (I 1)) fun g =>
 un (gSel g false (I p1)) fun h =>
 grdW Tryz.prog X0 w0 g false (vS (binOp .gtr 3 h (I 99999999))) fun i =>
 rdW Tryz.prog X0 w0 (pickN g (B true) i) fun j =>
 (condW j
 ((fin R X0 w0 (Value.tuple #[(.string { data := #[] }), (I 1)])))
 (((eC Tryz.prog R X0 w0 true 106 #[(.string p0), (I p1)] fun k l m =>
 (fin R m l (Value.tuple #[k, (I 0)])))))))))
theorem ok_wal_Name {R : Ending → World → Prop} {w0 : World} {p0 : ByteArray} {p1 : Int} (h : vc_wal_Name R w0 (old w0) p0 p1) : Calls Tryz.prog 79 #[(.string p0), (I p1)] w0 R :=
  calls_of_vc (pl := pl_wal_Name) Tryz.func79 (by kernel_rfl) (by kernel_rfl) h
noncomputable def pl_disk_Disk_Down : Plan := ⟨7, [], [], [0, 2], [], []⟩
def vc_disk_Disk_Down (R : Ending → World → Prop) (w0 : World) (X0 : XS) (p0 : Value) : Prop :=
 (rdW Tryz.prog X0 w0 (nilN p0) fun a =>
 rdV Tryz.prog X0 w0 (fld 106 4 4 1 a) fun b =>
 rdV Tryz.prog X0 w0 (ld1 4 b) fun c =>
 (fin R X0 w0 c))
theorem ok_disk_Disk_Down {R : Ending → World → Prop} {w0 : World} {p0 : Value} (h : vc_disk_Disk_Down R w0 (old w0) p0) : Calls Tryz.prog 80 #[p0] w0 R :=
  calls_of_vc (pl := pl_disk_Disk_Down) Tryz.func80 (by kernel_rfl) (by kernel_rfl) h
noncomputable def pl_wal_Log_roll : Plan := ⟨32, [], [], [0, 1, 4, 5, 18], [], []⟩
def vc_wal_Log_roll (R : Ending → World → Prop) (w0 : World) (X0 : XS) (p0 : Value) (p1 : Int) : Prop :=
 (rdW Tryz.prog X0 w0 (nilN p0) fun a =>
 rdV Tryz.prog X0 w0 (fld 158 0 0 1 a) fun b =>
 rdV Tryz.prog X0 w0 (ld1 26 b) fun c =>
 rdW Tryz.prog X0 w0 (nilN p0) fun d =>
 rdV Tryz.prog X0 w0 (fld 158 1 1 1 d) fun e =>
 rdV Tryz.prog X0 w0 (ld1 9 e) fun g =>
 eC Tryz.prog R X0 w0 false 106 #[g, (I p1)] fun h i j =>
 eC Tryz.prog R j i true 140 #[c, h] fun k l m =>
 ((jn (fun (n : World) (o : XS) =>
 (fin R o n k)) fun q =>
 rdV Tryz.prog m l (binS .eql 29 (.tmp 17) (.const (I 0)) k (I 0)) fun r =>
 (condW r
 (rdW Tryz.prog m l (nilN p0) fun s =>
 rdV Tryz.prog m l (fld 158 3 3 1 s) fun t =>
 rdV Tryz.prog m l (ld1 156 t) fun v =>
 rdV Tryz.prog m l (bld 163 #[(I p1), (.slice none 0 0), (I 0)] #[(0, (I p1))]) fun y =>
 eV Tryz.prog R m l true (Instr.box 163 y) fun z A C =>
 eV Tryz.prog R C A true (bsS 156 164 1 1 #[(0, z)]) fun D E F =>
 eV Tryz.prog R F E true (apS 156 164 1 8 156 v D) fun G H L =>
 rdW Tryz.prog L H (nilN p0) fun M =>
 rdV Tryz.prog L H (fld 158 3 3 1 M) fun N =>
 eU Tryz.prog R L H true (st1 156 1 N G) fun _ O Q =>
 (q O Q))
 (q l m)))))
theorem ok_wal_Log_roll {R : Ending → World → Prop} {w0 : World} {p0 : Value} {p1 : Int} (h : vc_wal_Log_roll R w0 (old w0) p0 p1) : Calls Tryz.prog 83 #[p0, (I p1)] w0 R :=
  calls_of_vc (pl := pl_wal_Log_roll) Tryz.func83 (by kernel_rfl) (by kernel_rfl) h
noncomputable def pl_wal_Log_last : Plan := ⟨15, [], [], [0, 2], [], []⟩
def vc_wal_Log_last (R : Ending → World → Prop) (w0 : World) (X0 : XS) (p0 : Value) : Prop :=
 (rdW Tryz.prog X0 w0 (nilN p0) fun a =>
 rdV Tryz.prog X0 w0 (fld 158 3 3 1 a) fun b =>
 rdV Tryz.prog X0 w0 (ld1 156 b) fun c =>
 rdW Tryz.prog X0 w0 (nilN p0) fun d =>
 rdV Tryz.prog X0 w0 (fld 158 3 3 1 d) fun e =>
 rdV Tryz.prog X0 w0 (ld1 156 e) fun g =>
 rdV Tryz.prog X0 w0 (lnS 156 3 g) fun h =>
 rdV Tryz.prog X0 w0 (binOp .sub 3 h (I 1)) fun i =>
 rdV Tryz.prog X0 w0 (ixS 156 1 c i) fun j =>
 rdV Tryz.prog X0 w0 (ld1 164 j) fun k =>
 (fin R X0 w0 k))
theorem ok_wal_Log_last {R : Ending → World → Prop} {w0 : World} {p0 : Value} (h : vc_wal_Log_last R w0 (old w0) p0) : Calls Tryz.prog 85 #[p0] w0 R :=
  calls_of_vc (pl := pl_wal_Log_last) Tryz.func85 (by kernel_rfl) (by kernel_rfl) h
noncomputable def pl_recs_walk : Plan := ⟨183, [], [], [0, 1, 4, 13, 14, 21, 30, 78, 95, 102, 119, 138, 145, 169], [], []⟩
def vc_recs_walk (R : Ending → World → Prop) (w0 : World) (X0 : XS) (p0 p1 : Value) : Prop :=
 rdW Tryz.prog X0 w0 (nilN p1) fun a =>
 rdV Tryz.prog X0 w0 (fld 117 0 0 1 a) fun b =>
 eC Tryz.prog R X0 w0 true 142 #[p0, b] fun _ c d =>
 (rdW Tryz.prog d c (nilN p1) fun e =>
 rdV Tryz.prog d c (fld 117 0 0 1 e) fun g =>
 rdV Tryz.prog d c (ld1 3 g) fun h =>
 ((jn (fun (i : World) (j : XS) =>
 fin R j i (Value.tuple #[])) fun k =>
 rdV Tryz.prog d c (binS .eql 3 (.tmp 13) (.const (I 1)) h (I 1)) fun l =>
 (condW l
 (rdW Tryz.prog d c (nilN p1) fun m =>
 rdV Tryz.prog d c (fld 117 11 17 12 m) fun n =>
 eC Tryz.prog R d c true 143 #[p0, n] fun _ o q =>
 (k o q))
 ((jn (fun (r : Value) =>
 condW r
 (rdW Tryz.prog d c (nilN p1) fun s =>
 rdV Tryz.prog d c (fld 117 5 11 1 s) fun t =>
 eC Tryz.prog R d c true 142 #[p0, t] fun _ v y =>
 (k v y))
 (rdV Tryz.prog d c (binS .eql 3 (.tmp 13) (.const (I 3)) h (I 3)) fun z =>
 (condW z
 (rdW Tryz.prog d c (nilN p1) fun A =>
 rdV Tryz.prog d c (fld 117 1 1 3 A) fun C =>
 rdV Tryz.prog d c (ldA 33 3 C) fun D =>
 rdW Tryz.prog d c (nilN p1) fun E =>
 rdV Tryz.prog d c (fld 117 2 4 3 E) fun F =>
 rdV Tryz.prog d c (ldA 35 3 F) fun G =>
 rdW Tryz.prog d c (nilN p1) fun H =>
 rdV Tryz.prog d c (fld 117 7 13 1 H) fun L =>
 rdV Tryz.prog d c (ld1 36 L) fun M =>
 rdW Tryz.prog d c (nilN p1) fun N =>
 rdV Tryz.prog d c (fld 117 8 14 1 N) fun O =>
 rdV Tryz.prog d c (ld1 23 O) fun Q =>
 un (cellOf D 0) fun S =>
 un (cellOf D 1) fun T =>
 un (cellOf D 2) fun U =>
 un (cellOf G 0) fun V =>
 un (cellOf G 1) fun Y =>
 un (cellOf G 2) fun Z =>
 rdV Tryz.prog d c (bld 229 #[S, T, U, V, Y, Z, M, Q] #[(0, D), (1, G), (2, M), (3, Q)]) fun a0 =>
 eV Tryz.prog R d c false (Instr.alloc 229 true (Value.tuple #[])) fun b0 c0 d0 =>
 eU Tryz.prog R d0 c0 true (st1 229 8 b0 a0) fun _ e0 g0 =>
 (eC Tryz.prog R g0 e0 true 144 #[p0, b0] fun _ h0 i0 =>
 (rdV Tryz.prog i0 h0 (fld 229 0 0 3 b0) fun j0 =>
 rdV Tryz.prog i0 h0 (ldA 33 3 j0) fun k0 =>
 rdV Tryz.prog i0 h0 (fld 229 1 3 3 b0) fun l0 =>
 rdV Tryz.prog i0 h0 (ldA 35 3 l0) fun m0 =>
 rdV Tryz.prog i0 h0 (fld 229 2 6 1 b0) fun n0 =>
 rdV Tryz.prog i0 h0 (ld1 36 n0) fun o0 =>
 rdV Tryz.prog i0 h0 (fld 229 3 7 1 b0) fun q0 =>
 rdV Tryz.prog i0 h0 (ld1 23 q0) fun r0 =>
 rdW Tryz.prog i0 h0 (nilN p1) fun s0 =>
 rdV Tryz.prog i0 h0 (fld 117 1 1 3 s0) fun t0 =>
 eU Tryz.prog R i0 h0 true (st1 33 3 t0 k0) fun _ v0 y0 =>
 rdW Tryz.prog y0 v0 (nilN p1) fun z0 =>
 rdV Tryz.prog y0 v0 (fld 117 2 4 3 z0) fun A0 =>
 eU Tryz.prog R y0 v0 true (st1 35 3 A0 m0) fun _ C0 D0 =>
 rdW Tryz.prog D0 C0 (nilN p1) fun E0 =>
 rdV Tryz.prog D0 C0 (fld 117 7 13 1 E0) fun F0 =>
 eU Tryz.prog R D0 C0 true (st1 36 1 F0 o0) fun _ G0 H0 =>
 rdW Tryz.prog H0 G0 (nilN p1) fun L0 =>
 rdV Tryz.prog H0 G0 (fld 117 8 14 1 L0) fun M0 =>
 eU Tryz.prog R H0 G0 true (st1 23 1 M0 r0) fun _ N0 O0 =>
 (rdW Tryz.prog O0 N0 (nilN p1) fun Q0 =>
 rdV Tryz.prog O0 N0 (fld 117 9 15 1 Q0) fun S0 =>
 rdV Tryz.prog O0 N0 (Instr.makeFunc (Fn.func 142) #[p0] #[]) fun T0 =>
 eC Tryz.prog R O0 N0 true 145 #[p0, S0, T0] fun _ U0 V0 =>
 (k U0 V0)))))
 (rdV Tryz.prog d c (binS .eql 3 (.tmp 13) (.const (I 4)) h (I 4)) fun Y0 =>
 (condW Y0
 (rdW Tryz.prog d c (nilN p1) fun Z0 =>
 rdV Tryz.prog d c (fld 117 1 1 3 Z0) fun a1 =>
 eC Tryz.prog R d c true 146 #[p0, a1] fun _ b1 c1 =>
 (rdW Tryz.prog c1 b1 (nilN p1) fun d1 =>
 rdV Tryz.prog c1 b1 (fld 117 4 10 1 d1) fun e1 =>
 eC Tryz.prog R c1 b1 true 147 #[p0, e1] fun _ g1 h1 =>
 (rdW Tryz.prog h1 g1 (nilN p1) fun i1 =>
 rdV Tryz.prog h1 g1 (fld 117 2 4 3 i1) fun j1 =>
 eC Tryz.prog R h1 g1 true 148 #[p0, j1] fun _ k1 l1 =>
 (k k1 l1))))
 (rdV Tryz.prog d c (binS .eql 3 (.tmp 13) (.const (I 5)) h (I 5)) fun m1 =>
 (condW m1
 (rdW Tryz.prog d c (nilN p1) fun n1 =>
 rdV Tryz.prog d c (fld 117 2 4 3 n1) fun o1 =>
 eC Tryz.prog R d c true 148 #[p0, o1] fun _ q1 r1 =>
 (k q1 r1))
 (rdV Tryz.prog d c (binS .eql 3 (.tmp 13) (.const (I 6)) h (I 6)) fun s1 =>
 (condW s1
 (rdW Tryz.prog d c (nilN p1) fun t1 =>
 rdV Tryz.prog d c (fld 117 6 12 1 t1) fun v1 =>
 eC Tryz.prog R d c true 149 #[p0, v1] fun _ y1 z1 =>
 (rdW Tryz.prog z1 y1 (nilN p1) fun A1 =>
 rdV Tryz.prog z1 y1 (fld 117 5 11 1 A1) fun C1 =>
 eC Tryz.prog R z1 y1 true 142 #[p0, C1] fun _ D1 E1 =>
 (rdW Tryz.prog E1 D1 (nilN p1) fun F1 =>
 rdV Tryz.prog E1 D1 (fld 117 2 4 3 F1) fun G1 =>
 eC Tryz.prog R E1 D1 true 148 #[p0, G1] fun _ H1 L1 =>
 (k H1 L1))))
 (rdV Tryz.prog d c (binS .eql 3 (.tmp 13) (.const (I 9)) h (I 9)) fun M1 =>
 (condW M1
 (rdW Tryz.prog d c (nilN p1) fun N1 =>
 rdV Tryz.prog d c (fld 117 1 1 3 N1) fun O1 =>
 eC Tryz.prog R d c true 146 #[p0, O1] fun _ Q1 S1 =>
 (rdW Tryz.prog S1 Q1 (nilN p1) fun T1 =>
 rdV Tryz.prog S1 Q1 (fld 117 2 4 3 T1) fun U1 =>
 eC Tryz.prog R S1 Q1 true 148 #[p0, U1] fun _ V1 Y1 =>
 (rdW Tryz.prog Y1 V1 (nilN p1) fun Z1 =>
 rdV Tryz.prog Y1 V1 (fld 117 9 15 1 Z1) fun a2 =>
 rdV Tryz.prog Y1 V1 (Instr.makeFunc (Fn.func 142) #[p0] #[]) fun b2 =>
 eC Tryz.prog R Y1 V1 true 145 #[p0, a2, b2] fun _ c2 d2 =>
 (k c2 d2))))
 (rdV Tryz.prog d c (binS .eql 3 (.tmp 13) (.const (I 10)) h (I 10)) fun e2 =>
 (condW e2
 (rdW Tryz.prog d c (nilN p1) fun g2 =>
 rdV Tryz.prog d c (fld 117 1 1 3 g2) fun h2 =>
 eC Tryz.prog R d c true 146 #[p0, h2] fun _ i2 j2 =>
 (k i2 j2))
 (rdV Tryz.prog d c (binS .eql 3 (.tmp 13) (.const (I 11)) h (I 11)) fun k2 =>
 (condW k2
 (rdW Tryz.prog d c (nilN p1) fun l2 =>
 rdV Tryz.prog d c (fld 117 3 7 3 l2) fun m2 =>
 eC Tryz.prog R d c true 148 #[p0, m2] fun _ n2 o2 =>
 (rdW Tryz.prog o2 n2 (nilN p1) fun q2 =>
 rdV Tryz.prog o2 n2 (fld 117 2 4 3 q2) fun r2 =>
 eC Tryz.prog R o2 n2 true 148 #[p0, r2] fun _ s2 t2 =>
 (rdW Tryz.prog t2 s2 (nilN p1) fun v2 =>
 rdV Tryz.prog t2 s2 (fld 117 1 1 3 v2) fun y2 =>
 eC Tryz.prog R t2 s2 true 146 #[p0, y2] fun _ z2 A2 =>
 (rdW Tryz.prog A2 z2 (nilN p1) fun C2 =>
 rdV Tryz.prog A2 z2 (fld 117 8 14 1 C2) fun D2 =>
 rdV Tryz.prog A2 z2 (Instr.makeFunc (Fn.func 151) #[p0] #[]) fun E2 =>
 eC Tryz.prog R A2 z2 true 150 #[p0, D2, E2] fun _ F2 G2 =>
 (k F2 G2)))))
 (rdV Tryz.prog d c (binS .eql 3 (.tmp 13) (.const (I 12)) h (I 12)) fun H2 =>
 (condW H2
 (rdW Tryz.prog d c (nilN p1) fun L2 =>
 rdV Tryz.prog d c (fld 117 2 4 3 L2) fun M2 =>
 eC Tryz.prog R d c true 148 #[p0, M2] fun _ N2 O2 =>
 (rdW Tryz.prog O2 N2 (nilN p1) fun Q2 =>
 rdV Tryz.prog O2 N2 (fld 117 10 16 1 Q2) fun S2 =>
 rdV Tryz.prog O2 N2 (Instr.makeFunc (Fn.func 153) #[p0] #[]) fun T2 =>
 eC Tryz.prog R O2 N2 true 152 #[p0, S2, T2] fun _ U2 V2 =>
 (k U2 V2)))
 (k c d)))))))))))))))))) fun Y2 =>
 rdV Tryz.prog d c (binS .eql 3 (.tmp 13) (.const (I 2)) h (I 2)) fun Z2 =>
 (condW Z2
 (Y2 Z2)
 (rdV Tryz.prog d c (binS .eql 3 (.tmp 13) (.const (I 7)) h (I 7)) fun a3 =>
 (condW a3
 (Y2 a3)
 (rdV Tryz.prog d c (binS .eql 3 (.tmp 13) (.const (I 8)) h (I 8)) fun b3 =>
 (Y2 b3)))))))))))
theorem ok_recs_walk {R : Ending → World → Prop} {w0 : World} {p0 p1 : Value} (h : vc_recs_walk R w0 (old w0) p0 p1) : Calls Tryz.prog 89 #[p0, p1] w0 R :=
  calls_of_vc (pl := pl_recs_walk) Tryz.func89 (by kernel_rfl) (by kernel_rfl) h
noncomputable def pl_recs_Encode : Plan := ⟨23, [], [], [0, 1, 2, 3, 4, 5, 6, 10, 21], [], []⟩
def vc_recs_Encode (R : Ending → World → Prop) (w0 : World) (X0 : XS) (p0_0 p0_1 p0_2 p0_3 p0_4 p0_5 p0_6 p0_7 p0_8 p0_9 : Int) (p0_10 : Bool) (p0_11 : Int) (p0_12 : Nat) (p0_13 p0_14 p0_15 p0_16 : Value) (p0_17 p0_18 : Int) (p0_19 p0_20 : Nat) (p0_21 p0_22 p0_23 p0_24 p0_25 p0_26 : Int) (p0_27 p0_28 : Value) : Prop :=
 eV Tryz.prog R X0 w0 true (Instr.box 117 (.agg #[(I p0_0), (I p0_1), (I p0_2), (I p0_3), (I p0_4), (I p0_5), (I p0_6), (I p0_7), (I p0_8), (I p0_9), (B p0_10), (I p0_11), (.float .f64 p0_12), p0_13, p0_14, p0_15, p0_16, (I p0_17), (I p0_18), (.float .f64 p0_19), (.float .f64 p0_20), (I p0_21), (I p0_22), (I p0_23), (I p0_24), (I p0_25), (I p0_26), p0_27, p0_28])) fun a b c =>
 (rdV Tryz.prog c b (ldA 117 29 a) fun d =>
 eC Tryz.prog R c b true 155 #[d] fun e g h =>
 (rdV Tryz.prog h g (binS .neq 29 (.tmp 9) (.const (I 0)) e (I 0)) fun i =>
 (condW i
 ((fin R h g (Value.tuple #[(.slice none 0 0), e])))
 ((eC Tryz.prog R h g true 156 #[] fun j k l =>
 (rdV Tryz.prog l k (bld 175 #[j, (.pointer none)] #[(0, j)]) fun m =>
 eV Tryz.prog R l k true (Instr.box 175 m) fun n o q =>
 eC Tryz.prog R q o true 89 #[n, a] fun _ r s =>
 (eC Tryz.prog R s r true 157 #[j] fun t v y =>
 (rdV Tryz.prog y v (lnS 95 3 t) fun z =>
 rdV Tryz.prog y v (binOp .gtr 3 z (I 262144)) fun A =>
 (condW A
 ((fin R y v (Value.tuple #[(.slice none 0 0), (I 2)])))
 (((fin R y v (Value.tuple #[t, (I 0)])))))))))))))
theorem ok_recs_Encode {R : Ending → World → Prop} {w0 : World} {p0_0 p0_1 p0_2 p0_3 p0_4 p0_5 p0_6 p0_7 p0_8 p0_9 : Int} {p0_10 : Bool} {p0_11 : Int} {p0_12 : Nat} {p0_13 p0_14 p0_15 p0_16 : Value} {p0_17 p0_18 : Int} {p0_19 p0_20 : Nat} {p0_21 p0_22 p0_23 p0_24 p0_25 p0_26 : Int} {p0_27 p0_28 : Value} (h : vc_recs_Encode R w0 (old w0) p0_0 p0_1 p0_2 p0_3 p0_4 p0_5 p0_6 p0_7 p0_8 p0_9 p0_10 p0_11 p0_12 p0_13 p0_14 p0_15 p0_16 p0_17 p0_18 p0_19 p0_20 p0_21 p0_22 p0_23 p0_24 p0_25 p0_26 p0_27 p0_28) : Calls Tryz.prog 91 #[(.agg #[(I p0_0), (I p0_1), (I p0_2), (I p0_3), (I p0_4), (I p0_5), (I p0_6), (I p0_7), (I p0_8), (I p0_9), (B p0_10), (I p0_11), (.float .f64 p0_12), p0_13, p0_14, p0_15, p0_16, (I p0_17), (I p0_18), (.float .f64 p0_19), (.float .f64 p0_20), (I p0_21), (I p0_22), (I p0_23), (I p0_24), (I p0_25), (I p0_26), p0_27, p0_28])] w0 R :=
  calls_of_vc (pl := pl_recs_Encode) Tryz.func91 (by kernel_rfl) (by kernel_rfl) h
noncomputable def pl_msgs_without : Plan := ⟨98, [(1, (Tryz.prog.cellsOf 48)), (2, (Tryz.prog.cellsOf 48)), (4, (Tryz.prog.cellsOf 35))], [6, 13, 14, 15, 16, 17, 22, 23, 24, 25, 26, 27, 32, 33, 34, 35, 36, 37, 38, 43, 44, 45, 46, 47, 52, 53, 54, 55, 60, 61, 65, 66, 67, 68, 71, 72, 73, 77, 78, 81, 87, 88, 89, 90, 96], [0, 3, 7, 9, 18, 28, 39, 48, 56, 62, 69, 74, 79, 82, 91, 93], [], []⟩
def vc_msgs_without (R : Ending → World → Prop) (w0 : World) (X0 : XS) (p0_0 p0_1 p0_2 p0_3 p0_4 p0_5 p0_6 p0_7 p0_8 p0_9 p0_10 p0_11 p0_12 p0_13 p0_14 : Int) (p0_15 : Bool) (p0_16 p0_17 : Int) (p0_18 p0_19 p0_20 p0_21 p0_22 p0_23 : Value) (p0_24 p0_25 : Int) (p0_26 p0_27 : Nat) (p0_28 p0_29 p0_30 p0_31 p0_32 p0_33 : Int) (p0_34 p0_35 : Value) : Prop :=
 (rdV Tryz.prog X0 w0 (bld 35 #[(I 0), (I 0), (I 0)] #[]) fun a =>
 un (Value.agg (Value.cells a)) fun b =>
 chk (List.length (Array.toList (Value.cells a)) == 3) (chk (List.all (Array.toList (Value.cells a)) one) ((((jn (fun (c : Value) =>
 (chk (isA c) (un (subOf c 0 36) fun d =>
 un (Value.agg (Value.cells d)) fun e =>
 chk (List.length (Array.toList (Value.cells d)) == 36) (chk (List.all (Array.toList (Value.cells d)) one) ((un (subOf e 0 36) fun g =>
 chk (List.all [e] isA) (fin R X0 w0 (Value.tuple #[g, (B true)])))))))) fun h =>
 rdV Tryz.prog X0 w0 (binS .eql 3 (.tmp 7) (.const (I 1)) (I p0_0) (I 1)) fun i =>
 (condW i
 (rdV Tryz.prog X0 w0 (bld 33 #[(I 0), (I 0), (I 0)] #[]) fun j =>
 chk (isA b) (un (Value.agg (List.toArray (setL [(I p0_0), (I p0_1), (I p0_2), (I p0_3), (I p0_4), (I p0_5), (I p0_6), (I p0_7), (I p0_8), (I p0_9), (I p0_10), (I p0_11), (I p0_12), (I p0_13), (I p0_14), (B p0_15), (I p0_16), (I p0_17), p0_18, p0_19, p0_20, p0_21, p0_22, p0_23, (I p0_24), (I p0_25), (.float .f64 p0_26), (.float .f64 p0_27), (I p0_28), (I p0_29), (I p0_30), (I p0_31), (I p0_32), (I p0_33), p0_34, p0_35] 3 (Array.toList (Value.cells j))))) fun k =>
 chk (List.length (Array.toList (Value.cells j)) == 3) (chk (List.all (Array.toList (Value.cells j)) one) (un (Value.agg (List.toArray (setL (Array.toList (Value.cells k)) 6 [(I 0)]))) fun l =>
 un (Value.agg (List.toArray (setL (Array.toList (Value.cells l)) 7 [(I 0)]))) fun m =>
 un (subOf b 0 3) fun n =>
 un (Value.agg (List.toArray (setL (Array.toList (Value.cells m)) 9 (Array.toList (Value.cells n))))) fun o =>
 chk (List.length (Array.toList (Value.cells n)) == 3) (chk (List.all (Array.toList (Value.cells n)) one) (un (Value.agg (List.toArray (setL (Array.toList (Value.cells o)) 18 [(.slice none 0 0)]))) fun q =>
 (h q)))))))
 (rdV Tryz.prog X0 w0 (binS .eql 3 (.tmp 7) (.const (I 2)) (I p0_0) (I 2)) fun r =>
 (condW r
 (rdV Tryz.prog X0 w0 (bld 33 #[(I 0), (I 0), (I 0)] #[]) fun s =>
 chk (isA b) (un (Value.agg (List.toArray (setL [(I p0_0), (I p0_1), (I p0_2), (I p0_3), (I p0_4), (I p0_5), (I p0_6), (I p0_7), (I p0_8), (I p0_9), (I p0_10), (I p0_11), (I p0_12), (I p0_13), (I p0_14), (B p0_15), (I p0_16), (I p0_17), p0_18, p0_19, p0_20, p0_21, p0_22, p0_23, (I p0_24), (I p0_25), (.float .f64 p0_26), (.float .f64 p0_27), (I p0_28), (I p0_29), (I p0_30), (I p0_31), (I p0_32), (I p0_33), p0_34, p0_35] 3 (Array.toList (Value.cells s))))) fun t =>
 chk (List.length (Array.toList (Value.cells s)) == 3) (chk (List.all (Array.toList (Value.cells s)) one) (un (Value.agg (List.toArray (setL (Array.toList (Value.cells t)) 6 [(I 0)]))) fun v =>
 un (Value.agg (List.toArray (setL (Array.toList (Value.cells v)) 8 [(I 0)]))) fun y =>
 un (subOf b 0 3) fun z =>
 un (Value.agg (List.toArray (setL (Array.toList (Value.cells y)) 9 (Array.toList (Value.cells z))))) fun A =>
 chk (List.length (Array.toList (Value.cells z)) == 3) (chk (List.all (Array.toList (Value.cells z)) one) (un (Value.agg (List.toArray (setL (Array.toList (Value.cells A)) 19 [(.slice none 0 0)]))) fun C =>
 un (Value.agg (List.toArray (setL (Array.toList (Value.cells C)) 22 [(.slice none 0 0)]))) fun D =>
 (h D)))))))
 (rdV Tryz.prog X0 w0 (binS .eql 3 (.tmp 7) (.const (I 3)) (I p0_0) (I 3)) fun E =>
 (condW E
 (rdV Tryz.prog X0 w0 (bld 33 #[(I 0), (I 0), (I 0)] #[]) fun F =>
 chk (isA b) (un (Value.agg (List.toArray (setL [(I p0_0), (I p0_1), (I p0_2), (I p0_3), (I p0_4), (I p0_5), (I p0_6), (I p0_7), (I p0_8), (I p0_9), (I p0_10), (I p0_11), (I p0_12), (I p0_13), (I p0_14), (B p0_15), (I p0_16), (I p0_17), p0_18, p0_19, p0_20, p0_21, p0_22, p0_23, (I p0_24), (I p0_25), (.float .f64 p0_26), (.float .f64 p0_27), (I p0_28), (I p0_29), (I p0_30), (I p0_31), (I p0_32), (I p0_33), p0_34, p0_35] 3 (Array.toList (Value.cells F))))) fun G =>
 chk (List.length (Array.toList (Value.cells F)) == 3) (chk (List.all (Array.toList (Value.cells F)) one) (un (Value.agg (List.toArray (setL (Array.toList (Value.cells G)) 6 [(I 0)]))) fun H =>
 un (Value.agg (List.toArray (setL (Array.toList (Value.cells H)) 7 [(I 0)]))) fun L =>
 un (subOf b 0 3) fun M =>
 un (Value.agg (List.toArray (setL (Array.toList (Value.cells L)) 9 (Array.toList (Value.cells M))))) fun N =>
 chk (List.length (Array.toList (Value.cells M)) == 3) (chk (List.all (Array.toList (Value.cells M)) one) (un (Value.agg (List.toArray (setL (Array.toList (Value.cells N)) 19 [(.slice none 0 0)]))) fun O =>
 un (Value.agg (List.toArray (setL (Array.toList (Value.cells O)) 20 [(.slice none 0 0)]))) fun Q =>
 un (Value.agg (List.toArray (setL (Array.toList (Value.cells Q)) 21 [(.slice none 0 0)]))) fun S =>
 (h S)))))))
 (rdV Tryz.prog X0 w0 (binS .eql 3 (.tmp 7) (.const (I 4)) (I p0_0) (I 4)) fun T =>
 (condW T
 (rdV Tryz.prog X0 w0 (bld 33 #[(I 0), (I 0), (I 0)] #[]) fun U =>
 chk (isA b) (un (Value.agg (List.toArray (setL [(I p0_0), (I p0_1), (I p0_2), (I p0_3), (I p0_4), (I p0_5), (I p0_6), (I p0_7), (I p0_8), (I p0_9), (I p0_10), (I p0_11), (I p0_12), (I p0_13), (I p0_14), (B p0_15), (I p0_16), (I p0_17), p0_18, p0_19, p0_20, p0_21, p0_22, p0_23, (I p0_24), (I p0_25), (.float .f64 p0_26), (.float .f64 p0_27), (I p0_28), (I p0_29), (I p0_30), (I p0_31), (I p0_32), (I p0_33), p0_34, p0_35] 3 (Array.toList (Value.cells U))))) fun V =>
 chk (List.length (Array.toList (Value.cells U)) == 3) (chk (List.all (Array.toList (Value.cells U)) one) (un (Value.agg (List.toArray (setL (Array.toList (Value.cells V)) 6 [(I 0)]))) fun Y =>
 un (Value.agg (List.toArray (setL (Array.toList (Value.cells Y)) 8 [(I 0)]))) fun Z =>
 un (subOf b 0 3) fun a0 =>
 un (Value.agg (List.toArray (setL (Array.toList (Value.cells Z)) 9 (Array.toList (Value.cells a0))))) fun b0 =>
 chk (List.length (Array.toList (Value.cells a0)) == 3) (chk (List.all (Array.toList (Value.cells a0)) one) (un (Value.agg (List.toArray (setL (Array.toList (Value.cells b0)) 22 [(.slice none 0 0)]))) fun c0 =>
 (h c0)))))))
 (rdV Tryz.prog X0 w0 (binS .eql 3 (.tmp 7) (.const (I 5)) (I p0_0) (I 5)) fun d0 =>
 (condW d0
 (rdV Tryz.prog X0 w0 (bld 33 #[(I 0), (I 0), (I 0)] #[]) fun e0 =>
 chk (isA b) (un (Value.agg (List.toArray (setL [(I p0_0), (I p0_1), (I p0_2), (I p0_3), (I p0_4), (I p0_5), (I p0_6), (I p0_7), (I p0_8), (I p0_9), (I p0_10), (I p0_11), (I p0_12), (I p0_13), (I p0_14), (B p0_15), (I p0_16), (I p0_17), p0_18, p0_19, p0_20, p0_21, p0_22, p0_23, (I p0_24), (I p0_25), (.float .f64 p0_26), (.float .f64 p0_27), (I p0_28), (I p0_29), (I p0_30), (I p0_31), (I p0_32), (I p0_33), p0_34, p0_35] 3 (Array.toList (Value.cells e0))))) fun g0 =>
 chk (List.length (Array.toList (Value.cells e0)) == 3) (chk (List.all (Array.toList (Value.cells e0)) one) (un (Value.agg (List.toArray (setL (Array.toList (Value.cells g0)) 6 [(I 0)]))) fun h0 =>
 un (Value.agg (List.toArray (setL (Array.toList (Value.cells h0)) 15 [(B false)]))) fun i0 =>
 un (subOf b 0 3) fun j0 =>
 un (Value.agg (List.toArray (setL (Array.toList (Value.cells i0)) 9 (Array.toList (Value.cells j0))))) fun k0 =>
 chk (List.length (Array.toList (Value.cells j0)) == 3) (chk (List.all (Array.toList (Value.cells j0)) one) (h k0))))))
 ((jn (fun (l0 : Value) =>
 condW l0
 (rdV Tryz.prog X0 w0 (bld 33 #[(I 0), (I 0), (I 0)] #[]) fun m0 =>
 un (Value.agg (List.toArray (setL [(I p0_0), (I p0_1), (I p0_2), (I p0_3), (I p0_4), (I p0_5), (I p0_6), (I p0_7), (I p0_8), (I p0_9), (I p0_10), (I p0_11), (I p0_12), (I p0_13), (I p0_14), (B p0_15), (I p0_16), (I p0_17), p0_18, p0_19, p0_20, p0_21, p0_22, p0_23, (I p0_24), (I p0_25), (.float .f64 p0_26), (.float .f64 p0_27), (I p0_28), (I p0_29), (I p0_30), (I p0_31), (I p0_32), (I p0_33), p0_34, p0_35] 3 (Array.toList (Value.cells m0))))) fun n0 =>
 chk (List.length (Array.toList (Value.cells m0)) == 3) (chk (List.all (Array.toList (Value.cells m0)) one) (un (Value.agg (List.toArray (setL (Array.toList (Value.cells n0)) 6 [(I 0)]))) fun o0 =>
 (h o0))))
 (rdV Tryz.prog X0 w0 (binS .eql 3 (.tmp 7) (.const (I 8)) (I p0_0) (I 8)) fun q0 =>
 (condW q0
 (chk (isA b) (un (subOf b 0 3) fun r0 =>
 un (Value.agg (List.toArray (setL [(I p0_0), (I p0_1), (I p0_2), (I p0_3), (I p0_4), (I p0_5), (I 0), (I p0_7), (I p0_8), (I p0_9), (I p0_10), (I p0_11), (I p0_12), (I p0_13), (I p0_14), (B p0_15), (I 0), (I 0), p0_18, p0_19, p0_20, p0_21, p0_22, p0_23, (I p0_24), (I p0_25), (.float .f64 p0_26), (.float .f64 p0_27), (I p0_28), (I p0_29), (I p0_30), (I p0_31), (I p0_32), (I p0_33), p0_34, p0_35] 9 (Array.toList (Value.cells r0))))) fun s0 =>
 chk (List.length (Array.toList (Value.cells r0)) == 3) (chk (List.all (Array.toList (Value.cells r0)) one) (h s0))))
 (rdV Tryz.prog X0 w0 (binS .eql 3 (.tmp 7) (.const (I 9)) (I p0_0) (I 9)) fun t0 =>
 (condW t0
 ((h (.agg #[(I p0_0), (I p0_1), (I p0_2), (I p0_3), (I p0_4), (I p0_5), (I 0), (I p0_7), (I p0_8), (I p0_9), (I p0_10), (I p0_11), (I p0_12), (I p0_13), (I p0_14), (B p0_15), (I 0), (I p0_17), p0_18, p0_19, p0_20, p0_21, p0_22, (.slice none 0 0), (I p0_24), (I p0_25), (.float .f64 p0_26), (.float .f64 p0_27), (I p0_28), (I p0_29), (I p0_30), (I p0_31), (I p0_32), (I p0_33), p0_34, p0_35])))
 (rdV Tryz.prog X0 w0 (binS .eql 3 (.tmp 7) (.const (I 10)) (I p0_0) (I 10)) fun v0 =>
 (condW v0
 (rdV Tryz.prog X0 w0 (bld 46 #[(I 0), (I 0), (.float .f64 0), (.float .f64 0), (I 0), (I 0), (I 0), (I 0), (I 0), (I 0), (.slice none 0 0), (.slice none 0 0)] #[]) fun y0 =>
 un (Value.agg (List.toArray (setL [(I p0_0), (I p0_1), (I p0_2), (I p0_3), (I p0_4), (I p0_5), (I 0), (I p0_7), (I p0_8), (I p0_9), (I p0_10), (I p0_11), (I p0_12), (I p0_13), (I p0_14), (B p0_15), (I p0_16), (I p0_17), p0_18, p0_19, p0_20, p0_21, p0_22, p0_23, (I p0_24), (I p0_25), (.float .f64 p0_26), (.float .f64 p0_27), (I p0_28), (I p0_29), (I p0_30), (I p0_31), (I p0_32), (I p0_33), p0_34, p0_35] 24 (Array.toList (Value.cells y0))))) fun z0 =>
 chk (List.length (Array.toList (Value.cells y0)) == 12) (chk (List.all (Array.toList (Value.cells y0)) one) (h z0)))
 (rdV Tryz.prog X0 w0 (binS .eql 3 (.tmp 7) (.const (I 11)) (I p0_0) (I 11)) fun A0 =>
 (condW A0
 ((h (.agg #[(I p0_0), (I p0_1), (I p0_2), (I p0_3), (I p0_4), (I p0_5), (I 0), (I p0_7), (I p0_8), (I p0_9), (I p0_10), (I p0_11), (I p0_12), (I p0_13), (I p0_14), (B p0_15), (I p0_16), (I p0_17), p0_18, p0_19, p0_20, p0_21, p0_22, p0_23, (I p0_24), (I p0_25), (.float .f64 p0_26), (.float .f64 p0_27), (I p0_28), (I p0_29), (I p0_30), (I p0_31), (I p0_32), (I p0_33), p0_34, p0_35])))
 (rdV Tryz.prog X0 w0 (binS .eql 3 (.tmp 7) (.const (I 12)) (I p0_0) (I 12)) fun C0 =>
 (condW C0
 (chk (isA b) (rdV Tryz.prog X0 w0 (bld 33 #[(I 0), (I 0), (I 0)] #[]) fun D0 =>
 un (subOf b 0 3) fun E0 =>
 un (Value.agg (List.toArray (setL [(I p0_0), (I p0_1), (I p0_2), (I p0_3), (I p0_4), (I p0_5), (I p0_6), (I p0_7), (I p0_8), (I p0_9), (I p0_10), (I p0_11), (I p0_12), (I p0_13), (I p0_14), (B p0_15), (I p0_16), (I p0_17), p0_18, p0_19, p0_20, p0_21, p0_22, p0_23, (I p0_24), (I p0_25), (.float .f64 p0_26), (.float .f64 p0_27), (I p0_28), (I p0_29), (I p0_30), (I p0_31), (I p0_32), (I p0_33), p0_34, p0_35] 12 (Array.toList (Value.cells E0))))) fun F0 =>
 chk (List.length (Array.toList (Value.cells E0)) == 3) (chk (List.all (Array.toList (Value.cells E0)) one) (un (Value.agg (List.toArray (setL (Array.toList (Value.cells F0)) 9 (Array.toList (Value.cells E0))))) fun G0 =>
 chk (List.length (Array.toList (Value.cells E0)) == 3) (chk (List.all (Array.toList (Value.cells E0)) one) (un (Value.agg (List.toArray (setL (Array.toList (Value.cells G0)) 3 (Array.toList (Value.cells D0))))) fun H0 =>
 chk (List.length (Array.toList (Value.cells D0)) == 3) (chk (List.all (Array.toList (Value.cells D0)) one) (un (Value.agg (List.toArray (setL (Array.toList (Value.cells H0)) 20 [(.slice none 0 0)]))) fun L0 =>
 (h L0)))))))))
 (rdV Tryz.prog X0 w0 (binS .eql 3 (.tmp 7) (.const (I 13)) (I p0_0) (I 13)) fun M0 =>
 (condW M0
 ((h (.agg #[(I p0_0), (I p0_1), (I p0_2), (I p0_3), (I p0_4), (I p0_5), (I p0_6), (I p0_7), (I p0_8), (I p0_9), (I p0_10), (I p0_11), (I p0_12), (I p0_13), (I p0_14), (B p0_15), (I p0_16), (I p0_17), p0_18, p0_19, p0_20, p0_21, p0_22, p0_23, (I p0_24), (I p0_25), (.float .f64 p0_26), (.float .f64 p0_27), (I p0_28), (I p0_29), (I p0_30), (I p0_31), (I p0_32), (I p0_33), p0_34, p0_35])))
 (rdV Tryz.prog X0 w0 (binS .eql 3 (.tmp 7) (.const (I 14)) (I p0_0) (I 14)) fun N0 =>
 (condW N0
 (chk (isA b) (un (subOf b 0 3) fun O0 =>
 un (Value.agg (List.toArray (setL [(I p0_0), (I p0_1), (I p0_2), (I p0_3), (I p0_4), (I p0_5), (I p0_6), (I p0_7), (I p0_8), (I p0_9), (I p0_10), (I p0_11), (I p0_12), (I p0_13), (I p0_14), (B p0_15), (I p0_16), (I p0_17), p0_18, p0_19, p0_20, p0_21, p0_22, p0_23, (I p0_24), (I p0_25), (.float .f64 p0_26), (.float .f64 p0_27), (I p0_28), (I p0_29), (I p0_30), (I p0_31), (I p0_32), (I p0_33), p0_34, p0_35] 9 (Array.toList (Value.cells O0))))) fun Q0 =>
 chk (List.length (Array.toList (Value.cells O0)) == 3) (chk (List.all (Array.toList (Value.cells O0)) one) (h Q0))))
 (chk (List.all [(I p0_0), (I p0_1), (I p0_2), (I p0_3), (I p0_4), (I p0_5), (I p0_6), (I p0_7), (I p0_8), (I p0_9), (I p0_10), (I p0_11), (I p0_12), (I p0_13), (I p0_14), (B p0_15), (I p0_16), (I p0_17), p0_18, p0_19, p0_20, p0_21, p0_22, p0_23, (I p0_24), (I p0_25), (.float .f64 p0_26), (.float .f64 p0_27), (I p0_28), (I p0_29), (I p0_30), (I p0_31), (I p0_32), (I p0_33), p0_34, p0_35] one) ((fin R X0 w0 (Value.tuple #[(.agg #[(I p0_0), (I p0_1), (I p0_2), (I p0_3), (I p0_4), (I p0_5), (I p0_6), (I p0_7), (I p0_8), (I p0_9), (I p0_10), (I p0_11), (I p0_12), (I p0_13), (I p0_14), (B p0_15), (I p0_16), (I p0_17), p0_18, p0_19, p0_20, p0_21, p0_22, p0_23, (I p0_24), (I p0_25), (.float .f64 p0_26), (.float .f64 p0_27), (I p0_28), (I p0_29), (I p0_30), (I p0_31), (I p0_32), (I p0_33), p0_34, p0_35]), (B false)]))))))))))))))))))) fun S0 =>
 rdV Tryz.prog X0 w0 (binS .eql 3 (.tmp 7) (.const (I 6)) (I p0_0) (I 6)) fun T0 =>
 (condW T0
 (S0 T0)
 (rdV Tryz.prog X0 w0 (binS .eql 3 (.tmp 7) (.const (I 7)) (I p0_0) (I 7)) fun U0 =>
 (S0 U0))))))))))))))))))))
theorem ok_msgs_without {R : Ending → World → Prop} {w0 : World} {p0_0 p0_1 p0_2 p0_3 p0_4 p0_5 p0_6 p0_7 p0_8 p0_9 p0_10 p0_11 p0_12 p0_13 p0_14 : Int} {p0_15 : Bool} {p0_16 p0_17 : Int} {p0_18 p0_19 p0_20 p0_21 p0_22 p0_23 : Value} {p0_24 p0_25 : Int} {p0_26 p0_27 : Nat} {p0_28 p0_29 p0_30 p0_31 p0_32 p0_33 : Int} {p0_34 p0_35 : Value} (h : vc_msgs_without R w0 (old w0) p0_0 p0_1 p0_2 p0_3 p0_4 p0_5 p0_6 p0_7 p0_8 p0_9 p0_10 p0_11 p0_12 p0_13 p0_14 p0_15 p0_16 p0_17 p0_18 p0_19 p0_20 p0_21 p0_22 p0_23 p0_24 p0_25 p0_26 p0_27 p0_28 p0_29 p0_30 p0_31 p0_32 p0_33 p0_34 p0_35) : Calls Tryz.prog 99 #[(.agg #[(I p0_0), (I p0_1), (I p0_2), (I p0_3), (I p0_4), (I p0_5), (I p0_6), (I p0_7), (I p0_8), (I p0_9), (I p0_10), (I p0_11), (I p0_12), (I p0_13), (I p0_14), (B p0_15), (I p0_16), (I p0_17), p0_18, p0_19, p0_20, p0_21, p0_22, p0_23, (I p0_24), (I p0_25), (.float .f64 p0_26), (.float .f64 p0_27), (I p0_28), (I p0_29), (I p0_30), (I p0_31), (I p0_32), (I p0_33), p0_34, p0_35])] w0 R :=
  calls_of_vc (pl := pl_msgs_without) Tryz.func99 (by kernel_rfl) (by kernel_rfl) h
noncomputable def pl_msgs_Node : Plan := ⟨21, [], [], [0, 2], [5, 6, 7, 8, 9, 10, 11, 13, 14, 15, 17, 18, 19], []⟩
def vc_msgs_Node (R : Ending → World → Prop) (w0 : World) (X0 : XS) (p0 : Int) : Prop :=
 (eC Tryz.prog R X0 w0 true 163 #[(I p0)] fun a b c =>
 un (gSel a false (I p0)) fun d =>
 grdW Tryz.prog c b a false (vS (binOp .gtr 3 d (I 20))) fun e =>
 un (gSel a false e) fun g =>
 un (gSel g true (I p0)) fun h =>
 grdW Tryz.prog c b g true (vS (binOp .leq 3 h (I 22))) fun i =>
 grdW Tryz.prog c b a false (pickN g i (B false)) fun j =>
 rdW Tryz.prog c b (pickN a (B true) j) fun k =>
 un (gSel k false (I p0)) fun l =>
 grdW Tryz.prog c b k false (vS (binS .eql 3 (.tmp 14) (.const (I 31)) l (I 31))) fun m =>
 rdW Tryz.prog c b (pickN k (B true) m) fun n =>
 un (gSel n false (I p0)) fun o =>
 grdW Tryz.prog c b n false (vS (binS .eql 3 (.tmp 18) (.const (I 32)) o (I 32))) fun q =>
 rdW Tryz.prog c b (pickN n (B true) q) fun r =>
 (fin R c b r))
theorem ok_msgs_Node {R : Ending → World → Prop} {w0 : World} {p0 : Int} (h : vc_msgs_Node R w0 (old w0) p0) : Calls Tryz.prog 100 #[(I p0)] w0 R :=
  calls_of_vc (pl := pl_msgs_Node) Tryz.func100 (by kernel_rfl) (by kernel_rfl) h
noncomputable def pl_msgs_zero : Plan := ⟨132, [(1, (Tryz.prog.cellsOf 48)), (3, (Tryz.prog.cellsOf 46))], [6, 8, 13, 18, 23, 28, 34, 40, 45, 50, 54, 55, 59, 60, 65, 66, 72, 73, 79, 85, 91, 97, 107, 110, 114, 118, 122, 126], [0, 2, 4, 5], [12, 14, 15, 17, 19, 20, 22, 24, 25, 27, 29, 30, 31, 33, 35, 36, 37, 39, 41, 42, 44, 46, 47, 49, 51, 52, 58, 61, 62, 64, 67, 68, 69, 71, 74, 75, 76, 78, 80, 81, 82, 84, 86, 87, 88, 90, 92, 93, 94, 96, 98, 99, 100, 103, 104, 106, 108, 109, 111, 112, 113, 115, 116, 117, 119, 120, 121, 123, 124, 125, 127, 128, 129, 130], []⟩
def vc_msgs_zero (R : Ending → World → Prop) (w0 : World) (X0 : XS) (_p0_0 _p0_1 _p0_2 p0_3 p0_4 p0_5 p0_6 p0_7 p0_8 p0_9 p0_10 p0_11 p0_12 p0_13 p0_14 : Int) (p0_15 : Bool) (p0_16 p0_17 : Int) (p0_18 p0_19 p0_20 p0_21 p0_22 p0_23 : Value) (p0_24 p0_25 : Int) (p0_26 p0_27 : Nat) (p0_28 p0_29 p0_30 p0_31 p0_32 p0_33 : Int) (p0_34 p0_35 : Value) : Prop :=
 (chk (List.all [(I p0_24), (I p0_25), (.float .f64 p0_26), (.float .f64 p0_27), (I p0_28), (I p0_29), (I p0_30), (I p0_31), (I p0_32), (I p0_33), p0_34, p0_35] one) ((rdV Tryz.prog X0 w0 (bld 33 #[(I 0), (I 0), (I 0)] #[]) fun a =>
 rdV Tryz.prog X0 w0 (binS .eql 33 (.tmp 9) (.tmp 10) (.agg #[(I p0_3), (I p0_4), (I p0_5)]) a) fun b =>
 un (gSel b true (I p0_6)) fun c =>
 grdW Tryz.prog X0 w0 b true (vS (binS .eql 3 (.tmp 14) (.const (I 0)) c (I 0))) fun d =>
 rdW Tryz.prog X0 w0 (pickN b d (B false)) fun e =>
 un (gSel e true (I p0_7)) fun g =>
 grdW Tryz.prog X0 w0 e true (vS (binS .eql 3 (.tmp 19) (.const (I 0)) g (I 0))) fun h =>
 rdW Tryz.prog X0 w0 (pickN e h (B false)) fun i =>
 un (gSel i true (I p0_8)) fun j =>
 grdW Tryz.prog X0 w0 i true (vS (binS .eql 29 (.tmp 24) (.const (I 0)) j (I 0))) fun k =>
 rdW Tryz.prog X0 w0 (pickN i k (B false)) fun l =>
 un (gSel l true (.agg #[(I p0_9), (I p0_10), (I p0_11)])) fun m =>
 grdW Tryz.prog X0 w0 l true (vS (bld 35 #[(I 0), (I 0), (I 0)] #[])) fun n =>
 grdW Tryz.prog X0 w0 l true (vS (binS .eql 35 (.tmp 29) (.tmp 30) m n)) fun o =>
 rdW Tryz.prog X0 w0 (pickN l o (B false)) fun q =>
 un (gSel q true (.agg #[(I p0_12), (I p0_13), (I p0_14)])) fun r =>
 grdW Tryz.prog X0 w0 q true (vS (bld 35 #[(I 0), (I 0), (I 0)] #[])) fun s =>
 grdW Tryz.prog X0 w0 q true (vS (binS .eql 35 (.tmp 35) (.tmp 36) r s)) fun t =>
 rdW Tryz.prog X0 w0 (pickN q t (B false)) fun v =>
 un (gSel v true (B p0_15)) fun y =>
 grdW Tryz.prog X0 w0 v true (vS (Op.unary UnOp.not y)) fun z =>
 rdW Tryz.prog X0 w0 (pickN v z (B false)) fun A =>
 un (gSel A true (I p0_16)) fun C =>
 grdW Tryz.prog X0 w0 A true (vS (binS .eql 3 (.tmp 46) (.const (I 0)) C (I 0))) fun D =>
 rdW Tryz.prog X0 w0 (pickN A D (B false)) fun E =>
 un (gSel E true (I p0_17)) fun F =>
 grdW Tryz.prog X0 w0 E true (vS (binS .eql 3 (.tmp 51) (.const (I 0)) F (I 0))) fun G =>
 rdW Tryz.prog X0 w0 (pickN E G (B false)) fun H =>
 (rdV Tryz.prog X0 w0 (binS .eql 3 (.tmp 56) (.const (I 0)) (I p0_24) (I 0)) fun L =>
 un (gSel L true (I p0_25)) fun M =>
 grdW Tryz.prog X0 w0 L true (vS (binS .eql 3 (.tmp 61) (.const (I 0)) M (I 0))) fun N =>
 rdW Tryz.prog X0 w0 (pickN L N (B false)) fun O =>
 un (gSel O true (.float .f64 p0_26)) fun Q =>
 jn (fun (S : Value) (T : World) (U : XS) =>
 grdW Tryz.prog U T O true (vS (binS .eql 196 (.tmp 68) (.const (Value.int IntKind.u64 0)) S (Value.int IntKind.u64 0))) fun V =>
 rdW Tryz.prog U T (pickN O V (B false)) fun Y =>
 un (gSel Y true (.float .f64 p0_27)) fun Z =>
 jn (fun (a0 : Value) (b0 : World) (c0 : XS) =>
 grdW Tryz.prog c0 b0 Y true (vS (binS .eql 196 (.tmp 75) (.const (Value.int IntKind.u64 0)) a0 (Value.int IntKind.u64 0))) fun d0 =>
 rdW Tryz.prog c0 b0 (pickN Y d0 (B false)) fun e0 =>
 un (gSel e0 true (.agg #[(I p0_28), (I p0_29), (I p0_30)])) fun g0 =>
 grdW Tryz.prog c0 b0 e0 true (vS (bld 35 #[(I 0), (I 0), (I 0)] #[])) fun h0 =>
 grdW Tryz.prog c0 b0 e0 true (vS (binS .eql 35 (.tmp 80) (.tmp 81) g0 h0)) fun i0 =>
 rdW Tryz.prog c0 b0 (pickN e0 i0 (B false)) fun j0 =>
 un (gSel j0 true (.agg #[(I p0_31), (I p0_32), (I p0_33)])) fun k0 =>
 grdW Tryz.prog c0 b0 j0 true (vS (bld 35 #[(I 0), (I 0), (I 0)] #[])) fun l0 =>
 grdW Tryz.prog c0 b0 j0 true (vS (binS .eql 35 (.tmp 86) (.tmp 87) k0 l0)) fun m0 =>
 rdW Tryz.prog c0 b0 (pickN j0 m0 (B false)) fun n0 =>
 un (gSel n0 true p0_34) fun o0 =>
 grdW Tryz.prog c0 b0 n0 true (vS (lnS 43 3 o0)) fun q0 =>
 grdW Tryz.prog c0 b0 n0 true (vS (binS .eql 3 (.tmp 93) (.const (I 0)) q0 (I 0))) fun r0 =>
 rdW Tryz.prog c0 b0 (pickN n0 r0 (B false)) fun s0 =>
 un (gSel s0 true p0_35) fun t0 =>
 grdW Tryz.prog c0 b0 s0 true (vS (lnS 44 3 t0)) fun v0 =>
 grdW Tryz.prog c0 b0 s0 true (vS (binS .eql 3 (.tmp 99) (.const (I 0)) v0 (I 0))) fun y0 =>
 rdW Tryz.prog c0 b0 (pickN s0 y0 (B false)) fun z0 =>
 (un (gSel H true z0) fun A0 =>
 rdW Tryz.prog c0 b0 (pickN H A0 (B false)) fun C0 =>
 un (gSel C0 true p0_18) fun D0 =>
 grdW Tryz.prog c0 b0 C0 true (vS (lnS 36 3 D0)) fun E0 =>
 un (gSel C0 true p0_19) fun F0 =>
 grdW Tryz.prog c0 b0 C0 true (vS (lnS 37 3 F0)) fun G0 =>
 grdW Tryz.prog c0 b0 C0 true (vS (binOp .add 3 E0 G0)) fun H0 =>
 un (gSel C0 true p0_20) fun L0 =>
 grdW Tryz.prog c0 b0 C0 true (vS (lnS 23 3 L0)) fun M0 =>
 grdW Tryz.prog c0 b0 C0 true (vS (binOp .add 3 H0 M0)) fun N0 =>
 un (gSel C0 true p0_21) fun O0 =>
 grdW Tryz.prog c0 b0 C0 true (vS (lnS 22 3 O0)) fun Q0 =>
 grdW Tryz.prog c0 b0 C0 true (vS (binOp .add 3 N0 Q0)) fun S0 =>
 un (gSel C0 true p0_22) fun T0 =>
 grdW Tryz.prog c0 b0 C0 true (vS (lnS 38 3 T0)) fun U0 =>
 grdW Tryz.prog c0 b0 C0 true (vS (binOp .add 3 S0 U0)) fun V0 =>
 un (gSel C0 true p0_23) fun Y0 =>
 grdW Tryz.prog c0 b0 C0 true (vS (lnS 39 3 Y0)) fun Z0 =>
 grdW Tryz.prog c0 b0 C0 true (vS (binOp .add 3 V0 Z0)) fun a1 =>
 grdW Tryz.prog c0 b0 C0 true (vS (binS .eql 3 (.tmp 129) (.const (I 0)) a1 (I 0))) fun b1 =>
 rdW Tryz.prog c0 b0 (pickN C0 b1 (B false)) fun c1 =>
 (fin R c0 b0 c1))) fun d1 =>
 (gE Y true (eC Tryz.prog R U T true 111 #[Z] d1) (d1 undef T U))) fun e1 =>
 (gE O true (eC Tryz.prog R X0 w0 true 111 #[Q] e1) (e1 undef w0 X0))))))
theorem ok_msgs_zero {R : Ending → World → Prop} {w0 : World} {p0_0 p0_1 p0_2 p0_3 p0_4 p0_5 p0_6 p0_7 p0_8 p0_9 p0_10 p0_11 p0_12 p0_13 p0_14 : Int} {p0_15 : Bool} {p0_16 p0_17 : Int} {p0_18 p0_19 p0_20 p0_21 p0_22 p0_23 : Value} {p0_24 p0_25 : Int} {p0_26 p0_27 : Nat} {p0_28 p0_29 p0_30 p0_31 p0_32 p0_33 : Int} {p0_34 p0_35 : Value} (h : vc_msgs_zero R w0 (old w0) p0_0 p0_1 p0_2 p0_3 p0_4 p0_5 p0_6 p0_7 p0_8 p0_9 p0_10 p0_11 p0_12 p0_13 p0_14 p0_15 p0_16 p0_17 p0_18 p0_19 p0_20 p0_21 p0_22 p0_23 p0_24 p0_25 p0_26 p0_27 p0_28 p0_29 p0_30 p0_31 p0_32 p0_33 p0_34 p0_35) : Calls Tryz.prog 101 #[(.agg #[(I p0_0), (I p0_1), (I p0_2), (I p0_3), (I p0_4), (I p0_5), (I p0_6), (I p0_7), (I p0_8), (I p0_9), (I p0_10), (I p0_11), (I p0_12), (I p0_13), (I p0_14), (B p0_15), (I p0_16), (I p0_17), p0_18, p0_19, p0_20, p0_21, p0_22, p0_23, (I p0_24), (I p0_25), (.float .f64 p0_26), (.float .f64 p0_27), (I p0_28), (I p0_29), (I p0_30), (I p0_31), (I p0_32), (I p0_33), p0_34, p0_35])] w0 R :=
  calls_of_vc (pl := pl_msgs_zero) Tryz.func101 (by kernel_rfl) (by kernel_rfl) h
noncomputable def pl_msgs_fields : Plan := ⟨95, [(1, (Tryz.prog.cellsOf 48))], [3, 17, 21, 26, 31, 36, 42, 46, 51, 57, 61, 66, 67, 68, 70, 76, 81, 83, 85, 87, 92], [0, 2, 4, 5, 15, 40, 55, 74, 79, 90], [20, 22, 23, 25, 27, 28, 30, 32, 33, 35, 37, 38, 45, 47, 48, 50, 52, 53, 60, 62, 63, 65, 69, 71, 72], []⟩
def vc_msgs_fields (R : Ending → World → Prop) (w0 : World) (X0 : XS) (p0_0 p0_1 p0_2 p0_3 p0_4 p0_5 p0_6 p0_7 p0_8 p0_9 p0_10 p0_11 p0_12 p0_13 p0_14 : Int) (p0_15 : Bool) (p0_16 p0_17 : Int) (p0_18 p0_19 p0_20 p0_21 p0_22 p0_23 : Value) (p0_24 p0_25 : Int) (p0_26 p0_27 : Nat) (p0_28 p0_29 p0_30 p0_31 p0_32 p0_33 : Int) (p0_34 p0_35 : Value) : Prop :=
 (((jn (fun (a : Value) =>
 condW a
 (eC Tryz.prog R X0 w0 true 164 #[(.agg #[(I p0_0), (I p0_1), (I p0_2), (I p0_3), (I p0_4), (I p0_5), (I p0_6), (I p0_7), (I p0_8), (I p0_9), (I p0_10), (I p0_11), (I p0_12), (I p0_13), (I p0_14), (B p0_15), (I p0_16), (I p0_17), p0_18, p0_19, p0_20, p0_21, p0_22, p0_23, (I p0_24), (I p0_25), (.float .f64 p0_26), (.float .f64 p0_27), (I p0_28), (I p0_29), (I p0_30), (I p0_31), (I p0_32), (I p0_33), p0_34, p0_35])] fun b c d =>
 (fin R d c b))
 (rdV Tryz.prog X0 w0 (binS .eql 3 (.tmp 4) (.const (I 8)) (I p0_0) (I 8)) fun e =>
 (condW e
 (eC Tryz.prog R X0 w0 true 163 #[(I p0_6)] fun g h i =>
 un (gSel g true (I p0_16)) fun j =>
 grdW Tryz.prog i h g true (vS (binOp .geq 3 j (I 1))) fun k =>
 rdW Tryz.prog i h (pickN g k (B false)) fun l =>
 un (gSel l true (I p0_17)) fun m =>
 grdW Tryz.prog i h l true (vS (binOp .geq 3 m (I 0))) fun n =>
 rdW Tryz.prog i h (pickN l n (B false)) fun o =>
 un (gSel o true (I p0_17)) fun q =>
 grdW Tryz.prog i h o true (vS (binOp .leq 3 q (I 8))) fun r =>
 rdW Tryz.prog i h (pickN o r (B false)) fun s =>
 un (gSel s true (.agg #[(I p0_9), (I p0_10), (I p0_11)])) fun t =>
 jn (fun (v : Value) (y : World) (z : XS) =>
 rdW Tryz.prog z y (pickN s v (B false)) fun A =>
 (fin R z y A)) fun C =>
 (gE s true (eC Tryz.prog R i h true 165 #[t] C) (C undef h i)))
 (rdV Tryz.prog X0 w0 (binS .eql 3 (.tmp 4) (.const (I 9)) (I p0_0) (I 9)) fun D =>
 (condW D
 (eC Tryz.prog R X0 w0 true 163 #[(I p0_6)] fun E F G =>
 un (gSel E true (I p0_16)) fun H =>
 grdW Tryz.prog G F E true (vS (binOp .geq 3 H (I 1))) fun L =>
 rdW Tryz.prog G F (pickN E L (B false)) fun M =>
 un (gSel M true p0_23) fun N =>
 jn (fun (O : Value) (Q : World) (S : XS) =>
 rdW Tryz.prog S Q (pickN M O (B false)) fun T =>
 (fin R S Q T)) fun U =>
 (gE M true (eC Tryz.prog R G F true 166 #[N] U) (U undef F G)))
 (rdV Tryz.prog X0 w0 (binS .eql 3 (.tmp 4) (.const (I 10)) (I p0_0) (I 10)) fun V =>
 (condW V
 (eC Tryz.prog R X0 w0 true 163 #[(I p0_6)] fun Y Z a0 =>
 un (gSel Y true (.agg #[(I p0_24), (I p0_25), (.float .f64 p0_26), (.float .f64 p0_27), (I p0_28), (I p0_29), (I p0_30), (I p0_31), (I p0_32), (I p0_33), p0_34, p0_35])) fun b0 =>
 jn (fun (c0 : Value) (d0 : World) (e0 : XS) =>
 rdW Tryz.prog e0 d0 (pickN Y c0 (B false)) fun g0 =>
 un (gSel g0 true (I p0_24)) fun h0 =>
 un (gSel g0 true (I p0_6)) fun i0 =>
 grdW Tryz.prog e0 d0 g0 true (vS (binS .eql 3 (.tmp 69) (.tmp 71) h0 i0)) fun j0 =>
 rdW Tryz.prog e0 d0 (pickN g0 j0 (B false)) fun k0 =>
 (fin R e0 d0 k0)) fun l0 =>
 (gE Y true (eC Tryz.prog R a0 Z true 167 #[b0] l0) (l0 undef Z a0)))
 (rdV Tryz.prog X0 w0 (binS .eql 3 (.tmp 4) (.const (I 11)) (I p0_0) (I 11)) fun m0 =>
 (condW m0
 (eC Tryz.prog R X0 w0 true 163 #[(I p0_6)] fun n0 o0 q0 =>
 (fin R q0 o0 n0))
 (rdV Tryz.prog X0 w0 (binS .eql 3 (.tmp 4) (.const (I 12)) (I p0_0) (I 12)) fun r0 =>
 (condW r0
 (eC Tryz.prog R X0 w0 true 168 #[(.agg #[(I p0_12), (I p0_13), (I p0_14)]), (.agg #[(I p0_9), (I p0_10), (I p0_11)]), (.agg #[(I p0_3), (I p0_4), (I p0_5)]), p0_20] fun s0 t0 v0 =>
 (fin R v0 t0 s0))
 (rdV Tryz.prog X0 w0 (binS .eql 3 (.tmp 4) (.const (I 14)) (I p0_0) (I 14)) fun y0 =>
 (condW y0
 (eC Tryz.prog R X0 w0 true 165 #[(.agg #[(I p0_9), (I p0_10), (I p0_11)])] fun z0 A0 C0 =>
 (fin R C0 A0 z0))
 (fin R X0 w0 (B true))))))))))))))) fun D0 =>
 rdV Tryz.prog X0 w0 (binS .eql 3 (.tmp 4) (.const (I 1)) (I p0_0) (I 1)) fun E0 =>
 (condW E0
 (D0 E0)
 (rdV Tryz.prog X0 w0 (binS .eql 3 (.tmp 4) (.const (I 2)) (I p0_0) (I 2)) fun F0 =>
 (condW F0
 (D0 F0)
 (rdV Tryz.prog X0 w0 (binS .eql 3 (.tmp 4) (.const (I 3)) (I p0_0) (I 3)) fun G0 =>
 (condW G0
 (D0 G0)
 (rdV Tryz.prog X0 w0 (binS .eql 3 (.tmp 4) (.const (I 4)) (I p0_0) (I 4)) fun H0 =>
 (condW H0
 (D0 H0)
 (rdV Tryz.prog X0 w0 (binS .eql 3 (.tmp 4) (.const (I 5)) (I p0_0) (I 5)) fun L0 =>
 (condW L0
 (D0 L0)
 (rdV Tryz.prog X0 w0 (binS .eql 3 (.tmp 4) (.const (I 6)) (I p0_0) (I 6)) fun M0 =>
 (condW M0
 (D0 M0)
 (rdV Tryz.prog X0 w0 (binS .eql 3 (.tmp 4) (.const (I 7)) (I p0_0) (I 7)) fun N0 =>
 (D0 N0))))))))))))))))
theorem ok_msgs_fields {R : Ending → World → Prop} {w0 : World} {p0_0 p0_1 p0_2 p0_3 p0_4 p0_5 p0_6 p0_7 p0_8 p0_9 p0_10 p0_11 p0_12 p0_13 p0_14 : Int} {p0_15 : Bool} {p0_16 p0_17 : Int} {p0_18 p0_19 p0_20 p0_21 p0_22 p0_23 : Value} {p0_24 p0_25 : Int} {p0_26 p0_27 : Nat} {p0_28 p0_29 p0_30 p0_31 p0_32 p0_33 : Int} {p0_34 p0_35 : Value} (h : vc_msgs_fields R w0 (old w0) p0_0 p0_1 p0_2 p0_3 p0_4 p0_5 p0_6 p0_7 p0_8 p0_9 p0_10 p0_11 p0_12 p0_13 p0_14 p0_15 p0_16 p0_17 p0_18 p0_19 p0_20 p0_21 p0_22 p0_23 p0_24 p0_25 p0_26 p0_27 p0_28 p0_29 p0_30 p0_31 p0_32 p0_33 p0_34 p0_35) : Calls Tryz.prog 102 #[(.agg #[(I p0_0), (I p0_1), (I p0_2), (I p0_3), (I p0_4), (I p0_5), (I p0_6), (I p0_7), (I p0_8), (I p0_9), (I p0_10), (I p0_11), (I p0_12), (I p0_13), (I p0_14), (B p0_15), (I p0_16), (I p0_17), p0_18, p0_19, p0_20, p0_21, p0_22, p0_23, (I p0_24), (I p0_25), (.float .f64 p0_26), (.float .f64 p0_27), (I p0_28), (I p0_29), (I p0_30), (I p0_31), (I p0_32), (I p0_33), p0_34, p0_35])] w0 R :=
  calls_of_vc (pl := pl_msgs_fields) Tryz.func102 (by kernel_rfl) (by kernel_rfl) h
noncomputable def pl_wal_Log_Append : Plan := ⟨90, [], [], [0, 1, 4, 5, 6, 7, 8, 9, 10, 12, 15, 19, 31, 35, 41, 66], [], []⟩
def vc_wal_Log_Append (R : Ending → World → Prop) (w0 : World) (X0 : XS) (p0 p1 : Value) : Prop :=
 (eC Tryz.prog R X0 w0 true 43 #[p0] fun a b c =>
 (rdV Tryz.prog c b (lnS 95 3 p1) fun d =>
 rdV Tryz.prog c b (binOp .gtr 3 d (I 262144)) fun e =>
 (condW e
 ((fin R c b (Value.tuple #[(I 0), (I 2)])))
 (rdV Tryz.prog c b (binOp .gtr 3 a (I 99999999)) fun g =>
 (condW g
 ((fin R c b (Value.tuple #[(I 0), (I 1)])))
 ((((jn (fun (h : World) (i : XS) =>
 eC Tryz.prog R i h true 85 #[p0] fun j k l =>
 (eC Tryz.prog R l k true 169 #[p1] fun m n o =>
 rdV Tryz.prog o n (Instr.extract m 0) fun q =>
 rdV Tryz.prog o n (Instr.extract m 1) fun _ =>
 (rdW Tryz.prog o n (nilN p0) fun r =>
 rdV Tryz.prog o n (fld 158 0 0 1 r) fun s =>
 rdV Tryz.prog o n (ld1 26 s) fun t =>
 rdW Tryz.prog o n (nilN p0) fun v =>
 rdV Tryz.prog o n (fld 158 1 1 1 v) fun y =>
 rdV Tryz.prog o n (ld1 9 y) fun z =>
 rdW Tryz.prog o n (nilN j) fun A =>
 rdV Tryz.prog o n (fld 163 0 0 1 A) fun C =>
 rdV Tryz.prog o n (ld1 3 C) fun D =>
 eC Tryz.prog R o n false 106 #[z, D] fun E F G =>
 eC Tryz.prog R G F true 170 #[t, E, q] fun H L M =>
 (rdV Tryz.prog M L (binS .neq 29 (.tmp 65) (.const (I 0)) H (I 0)) fun N =>
 (condW N
 ((fin R M L (Value.tuple #[(I 0), H])))
 ((rdW Tryz.prog M L (nilN j) fun O =>
 rdV Tryz.prog M L (fld 163 1 1 1 O) fun Q =>
 rdV Tryz.prog M L (ld1 161 Q) fun S =>
 eV Tryz.prog R M L false (bsS 95 5 1 0 #[]) fun T U V =>
 eV Tryz.prog R V U false (apS 95 5 1 1 95 T p1) fun Y Z a0 =>
 eV Tryz.prog R a0 Z false (bsS 161 95 1 1 #[(0, Y)]) fun b0 c0 d0 =>
 eV Tryz.prog R d0 c0 true (apS 161 95 1 24 161 S b0) fun e0 g0 h0 =>
 rdW Tryz.prog h0 g0 (nilN j) fun i0 =>
 rdV Tryz.prog h0 g0 (fld 163 1 1 1 i0) fun j0 =>
 eU Tryz.prog R h0 g0 true (st1 161 1 j0 e0) fun _ k0 l0 =>
 (rdW Tryz.prog l0 k0 (nilN j) fun m0 =>
 rdV Tryz.prog l0 k0 (fld 163 2 2 1 m0) fun n0 =>
 rdV Tryz.prog l0 k0 (ld1 3 n0) fun o0 =>
 rdV Tryz.prog l0 k0 (lnS 95 3 q) fun q0 =>
 rdV Tryz.prog l0 k0 (binOp .add 3 o0 q0) fun r0 =>
 rdW Tryz.prog l0 k0 (nilN j) fun s0 =>
 rdV Tryz.prog l0 k0 (fld 163 2 2 1 s0) fun t0 =>
 eU Tryz.prog R l0 k0 true (st1 3 1 t0 r0) fun _ v0 y0 =>
 ((fin R y0 v0 (Value.tuple #[a, (I 0)]))))))))))) fun z0 =>
 rdW Tryz.prog c b (nilN p0) fun A0 =>
 rdV Tryz.prog c b (fld 158 2 2 1 A0) fun C0 =>
 rdV Tryz.prog c b (ld1 3 C0) fun D0 =>
 eC Tryz.prog R c b false 85 #[p0] fun E0 F0 G0 =>
 rdW Tryz.prog G0 F0 (nilN E0) fun H0 =>
 rdV Tryz.prog G0 F0 (fld 163 2 2 1 H0) fun L0 =>
 rdV Tryz.prog G0 F0 (ld1 3 L0) fun M0 =>
 rdV Tryz.prog G0 F0 (binOp .geq 3 M0 D0) fun N0 =>
 (condW N0
 (eC Tryz.prog R G0 F0 true 104 #[p0] fun O0 Q0 S0 =>
 (rdV Tryz.prog S0 Q0 (binS .neq 29 (.tmp 34) (.const (I 0)) O0 (I 0)) fun T0 =>
 (condW T0
 ((fin R S0 Q0 (Value.tuple #[(I 0), O0])))
 ((eC Tryz.prog R S0 Q0 true 83 #[p0, a] fun U0 V0 Y0 =>
 (rdV Tryz.prog Y0 V0 (binS .neq 29 (.tmp 40) (.const (I 0)) U0 (I 0)) fun Z0 =>
 (condW Z0
 ((fin R Y0 V0 (Value.tuple #[(I 0), U0])))
 (z0 V0 Y0))))))))
 (z0 F0 G0)))))))))))
theorem ok_wal_Log_Append {R : Ending → World → Prop} {w0 : World} {p0 p1 : Value} (h : vc_wal_Log_Append R w0 (old w0) p0 p1) : Calls Tryz.prog 103 #[p0, p1] w0 R :=
  calls_of_vc (pl := pl_wal_Log_Append) Tryz.func103 (by kernel_rfl) (by kernel_rfl) h
noncomputable def pl_wal_Log_Sync : Plan := ⟨28, [], [], [0, 2, 3, 20], [], []⟩
def vc_wal_Log_Sync (R : Ending → World → Prop) (w0 : World) (X0 : XS) (p0 : Value) : Prop :=
 (rdW Tryz.prog X0 w0 (nilN p0) fun a =>
 rdV Tryz.prog X0 w0 (fld 158 0 0 1 a) fun b =>
 rdV Tryz.prog X0 w0 (ld1 26 b) fun c =>
 rdW Tryz.prog X0 w0 (nilN p0) fun d =>
 rdV Tryz.prog X0 w0 (fld 158 1 1 1 d) fun e =>
 rdV Tryz.prog X0 w0 (ld1 9 e) fun g =>
 eC Tryz.prog R X0 w0 false 85 #[p0] fun h i j =>
 rdW Tryz.prog j i (nilN h) fun k =>
 rdV Tryz.prog j i (fld 163 0 0 1 k) fun l =>
 rdV Tryz.prog j i (ld1 3 l) fun m =>
 eC Tryz.prog R j i false 106 #[g, m] fun n o q =>
 eC Tryz.prog R q o true 171 #[c, n] fun r s t =>
 ((jn (fun (v : World) (y : XS) =>
 (fin R y v r)) fun z =>
 rdV Tryz.prog t s (binS .eql 29 (.tmp 19) (.const (I 0)) r (I 0)) fun A =>
 (condW A
 (eC Tryz.prog R t s true 43 #[p0] fun C D E =>
 rdV Tryz.prog E D (binOp .sub 3 C (I 1)) fun F =>
 rdW Tryz.prog E D (nilN p0) fun G =>
 rdV Tryz.prog E D (fld 158 4 4 1 G) fun H =>
 eU Tryz.prog R E D true (st1 3 1 H F) fun _ L M =>
 (z L M))
 (z s t)))))
theorem ok_wal_Log_Sync {R : Ending → World → Prop} {w0 : World} {p0 : Value} (h : vc_wal_Log_Sync R w0 (old w0) p0) : Calls Tryz.prog 104 #[p0] w0 R :=
  calls_of_vc (pl := pl_wal_Log_Sync) Tryz.func104 (by kernel_rfl) (by kernel_rfl) h
noncomputable def pl_disk_Disk_Remove : Plan := ⟨11, [], [], [0, 1, 2, 3, 4], [], []⟩
def vc_disk_Disk_Remove (R : Ending → World → Prop) (w0 : World) (X0 : XS) (p0 : Value) (p1 : ByteArray) : Prop :=
 eV Tryz.prog R X0 w0 true (Instr.box 26 p0) fun a b c =>
 eV Tryz.prog R c b true (Instr.box 9 (.string p1)) fun d e g =>
 (rdV Tryz.prog g e (ld1 26 a) fun h =>
 rdV Tryz.prog g e (ld1 26 a) fun i =>
 rdV Tryz.prog g e (ld1 9 d) fun j =>
 rdV Tryz.prog g e (Instr.makeFunc (Fn.func 174) #[] #[a, d]) fun k =>
 eC Tryz.prog R g e false 173 #[i, j] fun l m n =>
 eC Tryz.prog R n m true 172 #[h, l, k] fun o q r =>
 (fin R r q o))
theorem ok_disk_Disk_Remove {R : Ending → World → Prop} {w0 : World} {p0 : Value} {p1 : ByteArray} (h : vc_disk_Disk_Remove R w0 (old w0) p0 p1) : Calls Tryz.prog 105 #[p0, (.string p1)] w0 R :=
  calls_of_vc (pl := pl_disk_Disk_Remove) Tryz.func105 (by kernel_rfl) (by kernel_rfl) h
noncomputable def pl_wal_file : Plan := ⟨29, [], [], [0, 1, 4, 5, 6, 10], [], [1, 6]⟩
def vc_wal_file (R : Ending → World → Prop) (w0 : World) (X0 : XS) (p0 : ByteArray) (p1 : Int) : Prop :=
 (eV Tryz.prog R X0 w0 true (bsS 95 5 1 8 #[(0, (Value.int IntKind.u8 48)), (1, (Value.int IntKind.u8 48)), (2, (Value.int IntKind.u8 48)), (3, (Value.int IntKind.u8 48)), (4, (Value.int IntKind.u8 48)), (5, (Value.int IntKind.u8 48)), (6, (Value.int IntKind.u8 48)), (7, (Value.int IntKind.u8 48))]) fun a b c =>
 eV Tryz.prog R c b true (convert 95 95 a) fun d e g =>
 ((lp2 g e (I 7) (I p1) 6 1 fun h i j k l m =>
 rdV Tryz.prog m l (binOp .geq 3 j (I 0)) fun n =>
 (condW n
 ((rdV Tryz.prog m l (ixS 95 1 d j) fun o =>
 rdV Tryz.prog m l (ld1 5 o) fun q =>
 rdV Tryz.prog m l (binOp .rem 3 k (I 10)) fun r =>
 rdV Tryz.prog m l (cvI IntKind.u8 3 5 r) fun s =>
 rdV Tryz.prog m l (binOp .add 5 q s) fun t =>
 rdV Tryz.prog m l (ixS 95 1 d j) fun v =>
 eU Tryz.prog R m l true (st1 5 1 v t) fun _ y z =>
 (rdV Tryz.prog z y (binOp .quo 3 k (I 10)) fun A =>
 ((rdV Tryz.prog z y (binOp .sub 3 j (I 1)) fun C =>
 nx2 h i C A y z)))))
 (((rdV Tryz.prog m l (binOp .add 9 (.string p0) (.string { data := #[46] })) fun D =>
 eV Tryz.prog R m l true (convert 95 9 d) fun E F G =>
 rdV Tryz.prog G F (binOp .add 9 D E) fun H =>
 (fin R G F H))))))))
theorem ok_wal_file {R : Ending → World → Prop} {w0 : World} {p0 : ByteArray} {p1 : Int} (h : vc_wal_file R w0 (old w0) p0 p1) : Calls Tryz.prog 106 #[(.string p0), (I p1)] w0 R :=
  calls_of_vc (pl := pl_wal_file) Tryz.func106 (by kernel_rfl) (by kernel_rfl) h
noncomputable def pl_raceref_WeighSeen : Plan := ⟨38, [], [], [0, 1, 4, 5, 6, 15], [11, 12, 13, 14, 18], [5, 6]⟩
def vc_raceref_WeighSeen (R : Ending → World → Prop) (w0 : World) (X0 : XS) (p0 : Value) (p1 : Int) : Prop :=
 (((lp2 X0 w0 (I 0) (I 0) 6 5 fun a b c d e g =>
 rdV Tryz.prog g e (lnS 37 3 p0) fun h =>
 rdV Tryz.prog g e (binOp .lss 3 c h) fun i =>
 un (gSel i true d) fun j =>
 un (gSel i true (I p1)) fun k =>
 grdW Tryz.prog g e i true (vS (binOp .leq 3 j k)) fun l =>
 rdW Tryz.prog g e (pickN i l (B false)) fun m =>
 (condW m
 ((rdV Tryz.prog g e (ixS 37 7 p0 c) fun n =>
 rdV Tryz.prog g e (fld 266 0 0 1 n) fun o =>
 rdV Tryz.prog g e (ld1 9 o) fun q =>
 rdV Tryz.prog g e (lnT 9 3 q) fun r =>
 rdV Tryz.prog g e (binOp .add 3 (I 1) r) fun s =>
 rdV Tryz.prog g e (ixS 37 7 p0 c) fun t =>
 rdV Tryz.prog g e (fld 266 1 1 3 t) fun v =>
 rdV Tryz.prog g e (fld 51 2 2 1 v) fun y =>
 rdV Tryz.prog g e (ld1 9 y) fun z =>
 rdV Tryz.prog g e (lnT 9 3 z) fun A =>
 eC Tryz.prog R g e false 40 #[d, s, (I p1)] fun C D E =>
 eC Tryz.prog R E D true 40 #[C, A, (I p1)] fun F G H =>
 ((rdV Tryz.prog H G (binOp .add 3 c (I 1)) fun L =>
 nx2 a b L F G H))))
 (fin R g e d)))))
theorem ok_raceref_WeighSeen {R : Ending → World → Prop} {w0 : World} {p0 : Value} {p1 : Int} (h : vc_raceref_WeighSeen R w0 (old w0) p0 p1) : Calls Tryz.prog 108 #[p0, (I p1)] w0 R :=
  calls_of_vc (pl := pl_raceref_WeighSeen) Tryz.func108 (by kernel_rfl) (by kernel_rfl) h
noncomputable def pl_raceref_WeighRec : Plan := ⟨67, [(2, (Tryz.prog.cellsOf 117))], [7, 11, 18, 27, 39, 49, 61], [0, 1, 4, 5, 6, 35], [31, 32, 33, 34, 38], [5, 6]⟩
def vc_raceref_WeighRec (R : Ending → World → Prop) (w0 : World) (X0 : XS) (_p0_0 _p0_1 _p0_2 _p0_3 _p0_4 _p0_5 _p0_6 _p0_7 _p0_8 _p0_9 : Int) (_p0_10 : Bool) (_p0_11 : Int) (_p0_12 : Nat) (p0_13 p0_14 p0_15 p0_16 : Value) (p0_17 p0_18 : Int) (p0_19 p0_20 : Nat) (p0_21 p0_22 p0_23 p0_24 p0_25 p0_26 : Int) (p0_27 p0_28 : Value) (p1 : Int) : Prop :=
 (eC Tryz.prog R X0 w0 false 23 #[p0_13, (I p1)] fun a b c =>
 eC Tryz.prog R c b true 10 #[p0_14, (I p1)] fun d e g =>
 eC Tryz.prog R g e true 40 #[a, d, (I p1)] fun h i j =>
 (rdV Tryz.prog j i (lnS 22 3 p0_15) fun k =>
 rdV Tryz.prog j i (binOp .add 3 (I p1) (I 1)) fun l =>
 rdV Tryz.prog j i (Builtin.min_ #[3, 3] 3 #[k, l]) fun m =>
 eC Tryz.prog R j i true 40 #[h, m, (I p1)] fun n o q =>
 ((lp2 q o (I 0) n 6 5 fun r s t v y z =>
 rdV Tryz.prog z y (lnS 54 3 p0_16) fun A =>
 rdV Tryz.prog z y (binOp .lss 3 t A) fun C =>
 un (gSel C true v) fun D =>
 un (gSel C true (I p1)) fun E =>
 grdW Tryz.prog z y C true (vS (binOp .leq 3 D E)) fun F =>
 rdW Tryz.prog z y (pickN C F (B false)) fun G =>
 (condW G
 ((rdV Tryz.prog z y (ixS 54 4 p0_16 t) fun H =>
 rdV Tryz.prog z y (fld 74 0 0 1 H) fun L =>
 rdV Tryz.prog z y (ld1 9 L) fun M =>
 rdV Tryz.prog z y (lnT 9 3 M) fun N =>
 rdV Tryz.prog z y (binOp .add 3 (I 1) N) fun O =>
 rdV Tryz.prog z y (ixS 54 4 p0_16 t) fun Q =>
 rdV Tryz.prog z y (fld 74 1 1 3 Q) fun S =>
 rdV Tryz.prog z y (fld 51 2 2 1 S) fun T =>
 rdV Tryz.prog z y (ld1 9 T) fun U =>
 rdV Tryz.prog z y (lnT 9 3 U) fun V =>
 eC Tryz.prog R z y false 40 #[v, O, (I p1)] fun Y Z a0 =>
 eC Tryz.prog R a0 Z true 40 #[Y, V, (I p1)] fun b0 c0 d0 =>
 ((rdV Tryz.prog d0 c0 (binOp .add 3 t (I 1)) fun e0 =>
 nx2 r s e0 b0 c0 d0))))
 (((rdV Tryz.prog z y (binOp .add 3 v (I 1)) fun g0 =>
 eC Tryz.prog R z y true 110 #[(.agg #[(I p0_17), (I p0_18), (.float .f64 p0_19), (.float .f64 p0_20), (I p0_21), (I p0_22), (I p0_23), (I p0_24), (I p0_25), (I p0_26), p0_27, p0_28]), (I p1)] fun h0 i0 j0 =>
 eC Tryz.prog R j0 i0 true 40 #[g0, h0, (I p1)] fun k0 l0 m0 =>
 (fin R m0 l0 k0)))))))))
theorem ok_raceref_WeighRec {R : Ending → World → Prop} {w0 : World} {p0_0 p0_1 p0_2 p0_3 p0_4 p0_5 p0_6 p0_7 p0_8 p0_9 : Int} {p0_10 : Bool} {p0_11 : Int} {p0_12 : Nat} {p0_13 p0_14 p0_15 p0_16 : Value} {p0_17 p0_18 : Int} {p0_19 p0_20 : Nat} {p0_21 p0_22 p0_23 p0_24 p0_25 p0_26 : Int} {p0_27 p0_28 : Value} {p1 : Int} (h : vc_raceref_WeighRec R w0 (old w0) p0_0 p0_1 p0_2 p0_3 p0_4 p0_5 p0_6 p0_7 p0_8 p0_9 p0_10 p0_11 p0_12 p0_13 p0_14 p0_15 p0_16 p0_17 p0_18 p0_19 p0_20 p0_21 p0_22 p0_23 p0_24 p0_25 p0_26 p0_27 p0_28 p1) : Calls Tryz.prog 109 #[(.agg #[(I p0_0), (I p0_1), (I p0_2), (I p0_3), (I p0_4), (I p0_5), (I p0_6), (I p0_7), (I p0_8), (I p0_9), (B p0_10), (I p0_11), (.float .f64 p0_12), p0_13, p0_14, p0_15, p0_16, (I p0_17), (I p0_18), (.float .f64 p0_19), (.float .f64 p0_20), (I p0_21), (I p0_22), (I p0_23), (I p0_24), (I p0_25), (I p0_26), p0_27, p0_28]), (I p1)] w0 R :=
  calls_of_vc (pl := pl_raceref_WeighRec) Tryz.func109 (by kernel_rfl) (by kernel_rfl) h
noncomputable def pl_raceref_WeighState : Plan := ⟨15, [(2, (Tryz.prog.cellsOf 46))], [5, 9], [0, 1, 4], [], []⟩
def vc_raceref_WeighState (R : Ending → World → Prop) (w0 : World) (X0 : XS) (_p0_0 _p0_1 : Int) (_p0_2 _p0_3 : Nat) (_p0_4 _p0_5 _p0_6 _p0_7 _p0_8 _p0_9 : Int) (p0_10 p0_11 : Value) (p1 : Int) : Prop :=
 (eC Tryz.prog R X0 w0 false 176 #[p0_10, (I p1)] fun a b c =>
 eC Tryz.prog R c b true 177 #[p0_11, (I p1)] fun d e g =>
 eC Tryz.prog R g e true 40 #[a, d, (I p1)] fun h i j =>
 (fin R j i h))
theorem ok_raceref_WeighState {R : Ending → World → Prop} {w0 : World} {p0_0 p0_1 : Int} {p0_2 p0_3 : Nat} {p0_4 p0_5 p0_6 p0_7 p0_8 p0_9 : Int} {p0_10 p0_11 : Value} {p1 : Int} (h : vc_raceref_WeighState R w0 (old w0) p0_0 p0_1 p0_2 p0_3 p0_4 p0_5 p0_6 p0_7 p0_8 p0_9 p0_10 p0_11 p1) : Calls Tryz.prog 110 #[(.agg #[(I p0_0), (I p0_1), (.float .f64 p0_2), (.float .f64 p0_3), (I p0_4), (I p0_5), (I p0_6), (I p0_7), (I p0_8), (I p0_9), p0_10, p0_11]), (I p1)] w0 R :=
  calls_of_vc (pl := pl_raceref_WeighState) Tryz.func110 (by kernel_rfl) (by kernel_rfl) h
noncomputable def pl_disk_Disk_Create : Plan := ⟨29, [], [], [0, 1, 2, 3, 4, 5, 6, 10, 18], [], []⟩
def vc_disk_Disk_Create (R : Ending → World → Prop) (w0 : World) (X0 : XS) (p0 : Value) (p1 : ByteArray) : Prop :=
 eV Tryz.prog R X0 w0 true (Instr.box 26 p0) fun a b c =>
 eV Tryz.prog R c b true (Instr.box 9 (.string p1)) fun d e g =>
 (((jn (fun (h : Value) (i : World) (j : XS) =>
 (rdV Tryz.prog j i (ld1 26 a) fun k =>
 rdV Tryz.prog j i (Instr.makeFunc (Fn.func 204) #[] #[a, d]) fun l =>
 eC Tryz.prog R j i true 172 #[k, h, l] fun m n o =>
 (fin R o n m))) fun q =>
 rdV Tryz.prog g e (ld1 9 d) fun r =>
 eC Tryz.prog R g e true 73 #[r] fun s t v =>
 rdV Tryz.prog v t (Op.unary UnOp.not s) fun y =>
 (condW y
 (q (I 10) t v)
 (rdV Tryz.prog v t (ld1 26 a) fun z =>
 rdW Tryz.prog v t (nilN z) fun A =>
 rdV Tryz.prog v t (fld 106 0 0 1 A) fun C =>
 rdV Tryz.prog v t (ld1 104 C) fun D =>
 rdV Tryz.prog v t (ld1 9 d) fun E =>
 rdV Tryz.prog v t (Instr.lookup 104 D E false) fun F =>
 rdV Tryz.prog v t (binS .neq 135 (.tmp 16) (.const (.pointer none)) F (.pointer none)) fun G =>
 (condW G
 (q (I 9) t v)
 (rdV Tryz.prog v t (ld1 26 a) fun H =>
 rdW Tryz.prog v t (nilN H) fun L =>
 rdV Tryz.prog v t (fld 106 0 0 1 L) fun M =>
 rdV Tryz.prog v t (ld1 104 M) fun N =>
 rdV Tryz.prog v t (Builtin.len_ #[104] 3 #[N]) fun O =>
 rdV Tryz.prog v t (binOp .geq 3 O (I 64)) fun Q =>
 (condW Q
 (q (I 3) t v)
 (q (I 0) t v)))))))))
theorem ok_disk_Disk_Create {R : Ending → World → Prop} {w0 : World} {p0 : Value} {p1 : ByteArray} (h : vc_disk_Disk_Create R w0 (old w0) p0 p1) : Calls Tryz.prog 140 #[p0, (.string p1)] w0 R :=
  calls_of_vc (pl := pl_disk_Disk_Create) Tryz.func140 (by kernel_rfl) (by kernel_rfl) h
noncomputable def pl_coder_Coder_Int : Plan := ⟨26, [], [], [0, 1, 8], [], []⟩
def vc_coder_Coder_Int (R : Ending → World → Prop) (w0 : World) (X0 : XS) (p0 p1 : Value) : Prop :=
 rdW Tryz.prog X0 w0 (nilN p0) fun a =>
 rdV Tryz.prog X0 w0 (fld 175 0 0 1 a) fun b =>
 rdV Tryz.prog X0 w0 (ld1 173 b) fun c =>
 rdV Tryz.prog X0 w0 (binS .neq 173 (.tmp 7) (.const (.pointer none)) c (.pointer none)) fun d =>
 (condW d
 (rdW Tryz.prog X0 w0 (nilN p0) fun e =>
 rdV Tryz.prog X0 w0 (fld 175 0 0 1 e) fun g =>
 rdV Tryz.prog X0 w0 (ld1 173 g) fun h =>
 rdW Tryz.prog X0 w0 (nilN p1) fun i =>
 rdV Tryz.prog X0 w0 (ld1 3 i) fun j =>
 eC Tryz.prog R X0 w0 true 206 #[h, j] fun _ k l =>
 (fin R l k (Value.tuple #[])))
 ((rdW Tryz.prog X0 w0 (nilN p0) fun m =>
 rdV Tryz.prog X0 w0 (fld 175 1 1 1 m) fun n =>
 rdV Tryz.prog X0 w0 (ld1 169 n) fun o =>
 eC Tryz.prog R X0 w0 true 207 #[o] fun q r s =>
 rdW Tryz.prog s r (nilN p1) fun t =>
 eU Tryz.prog R s r true (st1 3 1 t q) fun _ v y =>
 (eC Tryz.prog R y v true 208 #[p0] fun _ z A =>
 fin R A z (Value.tuple #[])))))
theorem ok_coder_Coder_Int {R : Ending → World → Prop} {w0 : World} {p0 p1 : Value} (h : vc_coder_Coder_Int R w0 (old w0) p0 p1) : Calls Tryz.prog 142 #[p0, p1] w0 R :=
  calls_of_vc (pl := pl_coder_Coder_Int) Tryz.func142 (by kernel_rfl) (by kernel_rfl) h
noncomputable def pl_coder_Coder_State : Plan := ⟨33, [], [], [0, 1], [], []⟩
def vc_coder_Coder_State (R : Ending → World → Prop) (w0 : World) (X0 : XS) (p0 p1 : Value) : Prop :=
 rdW Tryz.prog X0 w0 (nilN p1) fun a =>
 rdV Tryz.prog X0 w0 (fld 46 0 0 4 a) fun b =>
 eC Tryz.prog R X0 w0 true 209 #[p0, b] fun _ c d =>
 (rdW Tryz.prog d c (nilN p1) fun e =>
 rdV Tryz.prog d c (fld 46 1 4 3 e) fun g =>
 eC Tryz.prog R d c true 148 #[p0, g] fun _ h i =>
 (rdW Tryz.prog i h (nilN p1) fun j =>
 rdV Tryz.prog i h (fld 46 2 7 3 j) fun k =>
 eC Tryz.prog R i h true 148 #[p0, k] fun _ l m =>
 (rdW Tryz.prog m l (nilN p1) fun n =>
 rdV Tryz.prog m l (fld 46 3 10 1 n) fun o =>
 rdV Tryz.prog m l (Instr.makeFunc (Fn.func 211) #[p0] #[]) fun q =>
 eC Tryz.prog R m l true 210 #[p0, o, q] fun _ r s =>
 (rdW Tryz.prog s r (nilN p1) fun t =>
 rdV Tryz.prog s r (fld 46 4 11 1 t) fun v =>
 rdV Tryz.prog s r (Instr.makeFunc (Fn.func 144) #[p0] #[]) fun y =>
 eC Tryz.prog R s r true 212 #[p0, v, y] fun _ z A =>
 fin R A z (Value.tuple #[])))))
theorem ok_coder_Coder_State {R : Ending → World → Prop} {w0 : World} {p0 p1 : Value} (h : vc_coder_Coder_State R w0 (old w0) p0 p1) : Calls Tryz.prog 143 #[p0, p1] w0 R :=
  calls_of_vc (pl := pl_coder_Coder_State) Tryz.func143 (by kernel_rfl) (by kernel_rfl) h
noncomputable def pl_coder_Coder_Pending : Plan := ⟨28, [], [], [0, 1], [], []⟩
def vc_coder_Coder_Pending (R : Ending → World → Prop) (w0 : World) (X0 : XS) (p0 p1 : Value) : Prop :=
 rdW Tryz.prog X0 w0 (nilN p1) fun a =>
 rdV Tryz.prog X0 w0 (fld 229 0 0 3 a) fun b =>
 eC Tryz.prog R X0 w0 true 146 #[p0, b] fun _ c d =>
 (rdW Tryz.prog d c (nilN p1) fun e =>
 rdV Tryz.prog d c (fld 229 1 3 3 e) fun g =>
 eC Tryz.prog R d c true 148 #[p0, g] fun _ h i =>
 (rdW Tryz.prog i h (nilN p1) fun j =>
 rdV Tryz.prog i h (fld 229 2 6 1 j) fun k =>
 rdV Tryz.prog i h (Instr.makeFunc (Fn.func 214) #[p0] #[]) fun l =>
 eC Tryz.prog R i h true 213 #[p0, k, l] fun _ m n =>
 (rdW Tryz.prog n m (nilN p1) fun o =>
 rdV Tryz.prog n m (fld 229 3 7 1 o) fun q =>
 rdV Tryz.prog n m (Instr.makeFunc (Fn.func 151) #[p0] #[]) fun r =>
 eC Tryz.prog R n m true 150 #[p0, q, r] fun _ s t =>
 fin R t s (Value.tuple #[]))))
theorem ok_coder_Coder_Pending {R : Ending → World → Prop} {w0 : World} {p0 p1 : Value} (h : vc_coder_Coder_Pending R w0 (old w0) p0 p1) : Calls Tryz.prog 144 #[p0, p1] w0 R :=
  calls_of_vc (pl := pl_coder_Coder_Pending) Tryz.func144 (by kernel_rfl) (by kernel_rfl) h
noncomputable def pl_coder_List_int : Plan := ⟨63, [], [], [0, 1, 2, 6, 7, 8, 17, 38, 39, 40, 46], [], [39]⟩
def vc_coder_List_int (R : Ending → World → Prop) (w0 : World) (X0 : XS) (p0 p1 p2 : Value) : Prop :=
 rdW Tryz.prog X0 w0 (nilN p1) fun a =>
 rdV Tryz.prog X0 w0 (ld1 22 a) fun b =>
 rdV Tryz.prog X0 w0 (lnS 22 3 b) fun c =>
 ((jn (fun (d : Value) (e : World) (g : XS) =>
 (lp1 g e (I 0) 39 fun h i j k l =>
 rdV Tryz.prog l k (binOp .lss 3 j d) fun m =>
 (condW m
 ((((jn (fun (n : World) (o : XS) =>
 rdW Tryz.prog o n (nilN p1) fun q =>
 rdV Tryz.prog o n (ld1 22 q) fun r =>
 rdV Tryz.prog o n (ixS 22 1 r j) fun s =>
 eF Tryz.prog R o n true p2 #[s] fun _ t v =>
 ((rdV Tryz.prog v t (binOp .add 3 j (I 1)) fun y =>
 nx1 h i y t v))) fun z =>
 rdW Tryz.prog l k (nilN p0) fun A =>
 rdV Tryz.prog l k (fld 175 0 0 1 A) fun C =>
 rdV Tryz.prog l k (ld1 173 C) fun D =>
 rdV Tryz.prog l k (binS .eql 173 (.tmp 45) (.const (.pointer none)) D (.pointer none)) fun E =>
 (condW E
 ((rdW Tryz.prog l k (nilN p1) fun F =>
 rdV Tryz.prog l k (ld1 22 F) fun G =>
 eV Tryz.prog R l k true (bsS 22 3 1 1 #[(0, (I 0))]) fun H L M =>
 eV Tryz.prog R M L true (apS 22 3 1 8 22 G H) fun N O Q =>
 rdW Tryz.prog Q O (nilN p1) fun S =>
 eU Tryz.prog R Q O true (st1 22 1 S N) fun _ T U =>
 (z T U)))
 (z k l))))))
 (fin R l k (Value.tuple #[]))))) fun V =>
 rdW Tryz.prog X0 w0 (nilN p0) fun Y =>
 rdV Tryz.prog X0 w0 (fld 175 0 0 1 Y) fun Z =>
 rdV Tryz.prog X0 w0 (ld1 173 Z) fun a0 =>
 rdV Tryz.prog X0 w0 (binS .neq 173 (.tmp 16) (.const (.pointer none)) a0 (.pointer none)) fun b0 =>
 (condW b0
 (rdW Tryz.prog X0 w0 (nilN p0) fun c0 =>
 rdV Tryz.prog X0 w0 (fld 175 0 0 1 c0) fun d0 =>
 rdV Tryz.prog X0 w0 (ld1 173 d0) fun e0 =>
 eC Tryz.prog R X0 w0 true 206 #[e0, c] fun _ g0 h0 =>
 (V c g0 h0))
 (rdW Tryz.prog X0 w0 (nilN p0) fun i0 =>
 rdV Tryz.prog X0 w0 (fld 175 1 1 1 i0) fun j0 =>
 rdV Tryz.prog X0 w0 (ld1 169 j0) fun k0 =>
 rdW Tryz.prog X0 w0 (nilN p0) fun l0 =>
 rdV Tryz.prog X0 w0 (fld 175 1 1 1 l0) fun m0 =>
 rdV Tryz.prog X0 w0 (ld1 169 m0) fun n0 =>
 eC Tryz.prog R X0 w0 false 216 #[n0] fun o0 q0 r0 =>
 eC Tryz.prog R r0 q0 true 215 #[k0, o0] fun s0 t0 v0 =>
 (eC Tryz.prog R v0 t0 true 208 #[p0] fun _ y0 z0 =>
 (rdW Tryz.prog z0 y0 (nilN p1) fun A0 =>
 eU Tryz.prog R z0 y0 true (st1 22 1 A0 (.slice none 0 0)) fun _ C0 D0 =>
 (V s0 C0 D0)))))))
theorem ok_coder_List_int {R : Ending → World → Prop} {w0 : World} {p0 p1 p2 : Value} (h : vc_coder_List_int R w0 (old w0) p0 p1 p2) : Calls Tryz.prog 145 #[p0, p1, p2] w0 R :=
  calls_of_vc (pl := pl_coder_List_int) Tryz.func145 (by kernel_rfl) (by kernel_rfl) h
noncomputable def pl_coder_Coder_Txn : Plan := ⟨19, [], [], [0, 1], [], []⟩
def vc_coder_Coder_Txn (R : Ending → World → Prop) (w0 : World) (X0 : XS) (p0 p1 : Value) : Prop :=
 rdW Tryz.prog X0 w0 (nilN p1) fun a =>
 rdV Tryz.prog X0 w0 (fld 33 0 0 1 a) fun b =>
 eC Tryz.prog R X0 w0 true 142 #[p0, b] fun _ c d =>
 (rdW Tryz.prog d c (nilN p1) fun e =>
 rdV Tryz.prog d c (fld 33 1 1 1 e) fun g =>
 eC Tryz.prog R d c true 142 #[p0, g] fun _ h i =>
 (rdW Tryz.prog i h (nilN p1) fun j =>
 rdV Tryz.prog i h (fld 33 2 2 1 j) fun k =>
 eC Tryz.prog R i h true 142 #[p0, k] fun _ l m =>
 fin R m l (Value.tuple #[])))
theorem ok_coder_Coder_Txn {R : Ending → World → Prop} {w0 : World} {p0 p1 : Value} (h : vc_coder_Coder_Txn R w0 (old w0) p0 p1) : Calls Tryz.prog 146 #[p0, p1] w0 R :=
  calls_of_vc (pl := pl_coder_Coder_Txn) Tryz.func146 (by kernel_rfl) (by kernel_rfl) h
noncomputable def pl_coder_Coder_Flag : Plan := ⟨26, [], [], [0, 1, 8], [], []⟩
def vc_coder_Coder_Flag (R : Ending → World → Prop) (w0 : World) (X0 : XS) (p0 p1 : Value) : Prop :=
 rdW Tryz.prog X0 w0 (nilN p0) fun a =>
 rdV Tryz.prog X0 w0 (fld 175 0 0 1 a) fun b =>
 rdV Tryz.prog X0 w0 (ld1 173 b) fun c =>
 rdV Tryz.prog X0 w0 (binS .neq 173 (.tmp 7) (.const (.pointer none)) c (.pointer none)) fun d =>
 (condW d
 (rdW Tryz.prog X0 w0 (nilN p0) fun e =>
 rdV Tryz.prog X0 w0 (fld 175 0 0 1 e) fun g =>
 rdV Tryz.prog X0 w0 (ld1 173 g) fun h =>
 rdW Tryz.prog X0 w0 (nilN p1) fun i =>
 rdV Tryz.prog X0 w0 (ld1 4 i) fun j =>
 eC Tryz.prog R X0 w0 true 217 #[h, j] fun _ k l =>
 (fin R l k (Value.tuple #[])))
 ((rdW Tryz.prog X0 w0 (nilN p0) fun m =>
 rdV Tryz.prog X0 w0 (fld 175 1 1 1 m) fun n =>
 rdV Tryz.prog X0 w0 (ld1 169 n) fun o =>
 eC Tryz.prog R X0 w0 true 218 #[o] fun q r s =>
 rdW Tryz.prog s r (nilN p1) fun t =>
 eU Tryz.prog R s r true (st1 4 1 t q) fun _ v y =>
 (eC Tryz.prog R y v true 208 #[p0] fun _ z A =>
 fin R A z (Value.tuple #[])))))
theorem ok_coder_Coder_Flag {R : Ending → World → Prop} {w0 : World} {p0 p1 : Value} (h : vc_coder_Coder_Flag R w0 (old w0) p0 p1) : Calls Tryz.prog 147 #[p0, p1] w0 R :=
  calls_of_vc (pl := pl_coder_Coder_Flag) Tryz.func147 (by kernel_rfl) (by kernel_rfl) h
noncomputable def pl_coder_Coder_Stamp : Plan := ⟨19, [], [], [0, 1], [], []⟩
def vc_coder_Coder_Stamp (R : Ending → World → Prop) (w0 : World) (X0 : XS) (p0 p1 : Value) : Prop :=
 rdW Tryz.prog X0 w0 (nilN p1) fun a =>
 rdV Tryz.prog X0 w0 (fld 35 0 0 1 a) fun b =>
 eC Tryz.prog R X0 w0 true 142 #[p0, b] fun _ c d =>
 (rdW Tryz.prog d c (nilN p1) fun e =>
 rdV Tryz.prog d c (fld 35 1 1 1 e) fun g =>
 eC Tryz.prog R d c true 142 #[p0, g] fun _ h i =>
 (rdW Tryz.prog i h (nilN p1) fun j =>
 rdV Tryz.prog i h (fld 35 2 2 1 j) fun k =>
 eC Tryz.prog R i h true 142 #[p0, k] fun _ l m =>
 fin R m l (Value.tuple #[])))
theorem ok_coder_Coder_Stamp {R : Ending → World → Prop} {w0 : World} {p0 p1 : Value} (h : vc_coder_Coder_Stamp R w0 (old w0) p0 p1) : Calls Tryz.prog 148 #[p0, p1] w0 R :=
  calls_of_vc (pl := pl_coder_Coder_Stamp) Tryz.func148 (by kernel_rfl) (by kernel_rfl) h
noncomputable def pl_coder_Coder_Float : Plan := ⟨26, [], [], [0, 1, 8], [], []⟩
def vc_coder_Coder_Float (R : Ending → World → Prop) (w0 : World) (X0 : XS) (p0 p1 : Value) : Prop :=
 rdW Tryz.prog X0 w0 (nilN p0) fun a =>
 rdV Tryz.prog X0 w0 (fld 175 0 0 1 a) fun b =>
 rdV Tryz.prog X0 w0 (ld1 173 b) fun c =>
 rdV Tryz.prog X0 w0 (binS .neq 173 (.tmp 7) (.const (.pointer none)) c (.pointer none)) fun d =>
 (condW d
 (rdW Tryz.prog X0 w0 (nilN p0) fun e =>
 rdV Tryz.prog X0 w0 (fld 175 0 0 1 e) fun g =>
 rdV Tryz.prog X0 w0 (ld1 173 g) fun h =>
 rdW Tryz.prog X0 w0 (nilN p1) fun i =>
 rdV Tryz.prog X0 w0 (ld1 40 i) fun j =>
 eC Tryz.prog R X0 w0 true 219 #[h, j] fun _ k l =>
 (fin R l k (Value.tuple #[])))
 ((rdW Tryz.prog X0 w0 (nilN p0) fun m =>
 rdV Tryz.prog X0 w0 (fld 175 1 1 1 m) fun n =>
 rdV Tryz.prog X0 w0 (ld1 169 n) fun o =>
 eC Tryz.prog R X0 w0 true 220 #[o] fun q r s =>
 rdW Tryz.prog s r (nilN p1) fun t =>
 eU Tryz.prog R s r true (st1 40 1 t q) fun _ v y =>
 (eC Tryz.prog R y v true 208 #[p0] fun _ z A =>
 fin R A z (Value.tuple #[])))))
theorem ok_coder_Coder_Float {R : Ending → World → Prop} {w0 : World} {p0 p1 : Value} (h : vc_coder_Coder_Float R w0 (old w0) p0 p1) : Calls Tryz.prog 149 #[p0, p1] w0 R :=
  calls_of_vc (pl := pl_coder_Coder_Float) Tryz.func149 (by kernel_rfl) (by kernel_rfl) h
noncomputable def pl_coder_List_api_Write : Plan := ⟨63, [(8, (Tryz.prog.cellsOf 53))], [], [0, 1, 2, 6, 7, 17, 38, 39, 40, 46], [], [39]⟩
def vc_coder_List_api_Write (R : Ending → World → Prop) (w0 : World) (X0 : XS) (p0 p1 p2 : Value) : Prop :=
 rdW Tryz.prog X0 w0 (nilN p1) fun a =>
 rdV Tryz.prog X0 w0 (ld1 23 a) fun b =>
 rdV Tryz.prog X0 w0 (lnS 23 3 b) fun c =>
 ((jn (fun (d : Value) (e : World) (g : XS) =>
 (lp1 g e (I 0) 39 fun h i j k l =>
 rdV Tryz.prog l k (binOp .lss 3 j d) fun m =>
 (condW m
 ((((jn (fun (n : World) (o : XS) =>
 rdW Tryz.prog o n (nilN p1) fun q =>
 rdV Tryz.prog o n (ld1 23 q) fun r =>
 rdV Tryz.prog o n (ixS 23 4 r j) fun s =>
 eF Tryz.prog R o n true p2 #[s] fun _ t v =>
 ((rdV Tryz.prog v t (binOp .add 3 j (I 1)) fun y =>
 nx1 h i y t v))) fun z =>
 rdW Tryz.prog l k (nilN p0) fun A =>
 rdV Tryz.prog l k (fld 175 0 0 1 A) fun C =>
 rdV Tryz.prog l k (ld1 173 C) fun D =>
 rdV Tryz.prog l k (binS .eql 173 (.tmp 45) (.const (.pointer none)) D (.pointer none)) fun E =>
 (condW E
 ((rdW Tryz.prog l k (nilN p1) fun F =>
 rdV Tryz.prog l k (ld1 23 F) fun G =>
 eV Tryz.prog R l k false (bsS 23 53 4 1 #[(0, (.agg #[(.string { data := #[] }), (I 0), (.float .f64 0), (.string { data := #[] })]))]) fun H L M =>
 eV Tryz.prog R M L true (apS 23 53 4 48 23 G H) fun N O Q =>
 rdW Tryz.prog Q O (nilN p1) fun S =>
 eU Tryz.prog R Q O true (st1 23 1 S N) fun _ T U =>
 (z T U)))
 (z k l))))))
 (fin R l k (Value.tuple #[]))))) fun V =>
 rdW Tryz.prog X0 w0 (nilN p0) fun Y =>
 rdV Tryz.prog X0 w0 (fld 175 0 0 1 Y) fun Z =>
 rdV Tryz.prog X0 w0 (ld1 173 Z) fun a0 =>
 rdV Tryz.prog X0 w0 (binS .neq 173 (.tmp 16) (.const (.pointer none)) a0 (.pointer none)) fun b0 =>
 (condW b0
 (rdW Tryz.prog X0 w0 (nilN p0) fun c0 =>
 rdV Tryz.prog X0 w0 (fld 175 0 0 1 c0) fun d0 =>
 rdV Tryz.prog X0 w0 (ld1 173 d0) fun e0 =>
 eC Tryz.prog R X0 w0 true 206 #[e0, c] fun _ g0 h0 =>
 (V c g0 h0))
 (rdW Tryz.prog X0 w0 (nilN p0) fun i0 =>
 rdV Tryz.prog X0 w0 (fld 175 1 1 1 i0) fun j0 =>
 rdV Tryz.prog X0 w0 (ld1 169 j0) fun k0 =>
 rdW Tryz.prog X0 w0 (nilN p0) fun l0 =>
 rdV Tryz.prog X0 w0 (fld 175 1 1 1 l0) fun m0 =>
 rdV Tryz.prog X0 w0 (ld1 169 m0) fun n0 =>
 eC Tryz.prog R X0 w0 false 216 #[n0] fun o0 q0 r0 =>
 eC Tryz.prog R r0 q0 true 215 #[k0, o0] fun s0 t0 v0 =>
 (eC Tryz.prog R v0 t0 true 208 #[p0] fun _ y0 z0 =>
 (rdW Tryz.prog z0 y0 (nilN p1) fun A0 =>
 eU Tryz.prog R z0 y0 true (st1 23 1 A0 (.slice none 0 0)) fun _ C0 D0 =>
 (V s0 C0 D0)))))))
theorem ok_coder_List_api_Write {R : Ending → World → Prop} {w0 : World} {p0 p1 p2 : Value} (h : vc_coder_List_api_Write R w0 (old w0) p0 p1 p2) : Calls Tryz.prog 150 #[p0, p1, p2] w0 R :=
  calls_of_vc (pl := pl_coder_List_api_Write) Tryz.func150 (by kernel_rfl) (by kernel_rfl) h
noncomputable def pl_coder_Coder_Write : Plan := ⟨14, [], [], [0, 1], [], []⟩
def vc_coder_Coder_Write (R : Ending → World → Prop) (w0 : World) (X0 : XS) (p0 p1 : Value) : Prop :=
 rdW Tryz.prog X0 w0 (nilN p1) fun a =>
 rdV Tryz.prog X0 w0 (fld 53 0 0 1 a) fun b =>
 eC Tryz.prog R X0 w0 true 214 #[p0, b] fun _ c d =>
 (rdW Tryz.prog d c (nilN p1) fun e =>
 rdV Tryz.prog d c (fld 53 1 1 3 e) fun g =>
 eC Tryz.prog R d c true 221 #[p0, g] fun _ h i =>
 fin R i h (Value.tuple #[]))
theorem ok_coder_Coder_Write {R : Ending → World → Prop} {w0 : World} {p0 p1 : Value} (h : vc_coder_Coder_Write R w0 (old w0) p0 p1) : Calls Tryz.prog 151 #[p0, p1] w0 R :=
  calls_of_vc (pl := pl_coder_Coder_Write) Tryz.func151 (by kernel_rfl) (by kernel_rfl) h
noncomputable def pl_coder_List_api_Pair : Plan := ⟨63, [(8, (Tryz.prog.cellsOf 74))], [], [0, 1, 2, 6, 7, 17, 38, 39, 40, 46], [], [39]⟩
def vc_coder_List_api_Pair (R : Ending → World → Prop) (w0 : World) (X0 : XS) (p0 p1 p2 : Value) : Prop :=
 rdW Tryz.prog X0 w0 (nilN p1) fun a =>
 rdV Tryz.prog X0 w0 (ld1 54 a) fun b =>
 rdV Tryz.prog X0 w0 (lnS 54 3 b) fun c =>
 ((jn (fun (d : Value) (e : World) (g : XS) =>
 (lp1 g e (I 0) 39 fun h i j k l =>
 rdV Tryz.prog l k (binOp .lss 3 j d) fun m =>
 (condW m
 ((((jn (fun (n : World) (o : XS) =>
 rdW Tryz.prog o n (nilN p1) fun q =>
 rdV Tryz.prog o n (ld1 54 q) fun r =>
 rdV Tryz.prog o n (ixS 54 4 r j) fun s =>
 eF Tryz.prog R o n true p2 #[s] fun _ t v =>
 ((rdV Tryz.prog v t (binOp .add 3 j (I 1)) fun y =>
 nx1 h i y t v))) fun z =>
 rdW Tryz.prog l k (nilN p0) fun A =>
 rdV Tryz.prog l k (fld 175 0 0 1 A) fun C =>
 rdV Tryz.prog l k (ld1 173 C) fun D =>
 rdV Tryz.prog l k (binS .eql 173 (.tmp 45) (.const (.pointer none)) D (.pointer none)) fun E =>
 (condW E
 ((rdW Tryz.prog l k (nilN p1) fun F =>
 rdV Tryz.prog l k (ld1 54 F) fun G =>
 eV Tryz.prog R l k false (bsS 54 74 4 1 #[(0, (.agg #[(.string { data := #[] }), (I 0), (.float .f64 0), (.string { data := #[] })]))]) fun H L M =>
 eV Tryz.prog R M L true (apS 54 74 4 48 54 G H) fun N O Q =>
 rdW Tryz.prog Q O (nilN p1) fun S =>
 eU Tryz.prog R Q O true (st1 54 1 S N) fun _ T U =>
 (z T U)))
 (z k l))))))
 (fin R l k (Value.tuple #[]))))) fun V =>
 rdW Tryz.prog X0 w0 (nilN p0) fun Y =>
 rdV Tryz.prog X0 w0 (fld 175 0 0 1 Y) fun Z =>
 rdV Tryz.prog X0 w0 (ld1 173 Z) fun a0 =>
 rdV Tryz.prog X0 w0 (binS .neq 173 (.tmp 16) (.const (.pointer none)) a0 (.pointer none)) fun b0 =>
 (condW b0
 (rdW Tryz.prog X0 w0 (nilN p0) fun c0 =>
 rdV Tryz.prog X0 w0 (fld 175 0 0 1 c0) fun d0 =>
 rdV Tryz.prog X0 w0 (ld1 173 d0) fun e0 =>
 eC Tryz.prog R X0 w0 true 206 #[e0, c] fun _ g0 h0 =>
 (V c g0 h0))
 (rdW Tryz.prog X0 w0 (nilN p0) fun i0 =>
 rdV Tryz.prog X0 w0 (fld 175 1 1 1 i0) fun j0 =>
 rdV Tryz.prog X0 w0 (ld1 169 j0) fun k0 =>
 rdW Tryz.prog X0 w0 (nilN p0) fun l0 =>
 rdV Tryz.prog X0 w0 (fld 175 1 1 1 l0) fun m0 =>
 rdV Tryz.prog X0 w0 (ld1 169 m0) fun n0 =>
 eC Tryz.prog R X0 w0 false 216 #[n0] fun o0 q0 r0 =>
 eC Tryz.prog R r0 q0 true 215 #[k0, o0] fun s0 t0 v0 =>
 (eC Tryz.prog R v0 t0 true 208 #[p0] fun _ y0 z0 =>
 (rdW Tryz.prog z0 y0 (nilN p1) fun A0 =>
 eU Tryz.prog R z0 y0 true (st1 54 1 A0 (.slice none 0 0)) fun _ C0 D0 =>
 (V s0 C0 D0)))))))
theorem ok_coder_List_api_Pair {R : Ending → World → Prop} {w0 : World} {p0 p1 p2 : Value} (h : vc_coder_List_api_Pair R w0 (old w0) p0 p1 p2) : Calls Tryz.prog 152 #[p0, p1, p2] w0 R :=
  calls_of_vc (pl := pl_coder_List_api_Pair) Tryz.func152 (by kernel_rfl) (by kernel_rfl) h
noncomputable def pl_coder_Coder_Pair : Plan := ⟨14, [], [], [0, 1], [], []⟩
def vc_coder_Coder_Pair (R : Ending → World → Prop) (w0 : World) (X0 : XS) (p0 p1 : Value) : Prop :=
 rdW Tryz.prog X0 w0 (nilN p1) fun a =>
 rdV Tryz.prog X0 w0 (fld 74 0 0 1 a) fun b =>
 eC Tryz.prog R X0 w0 true 214 #[p0, b] fun _ c d =>
 (rdW Tryz.prog d c (nilN p1) fun e =>
 rdV Tryz.prog d c (fld 74 1 1 3 e) fun g =>
 eC Tryz.prog R d c true 221 #[p0, g] fun _ h i =>
 fin R i h (Value.tuple #[]))
theorem ok_coder_Coder_Pair {R : Ending → World → Prop} {w0 : World} {p0 p1 : Value} (h : vc_coder_Coder_Pair R w0 (old w0) p0 p1) : Calls Tryz.prog 153 #[p0, p1] w0 R :=
  calls_of_vc (pl := pl_coder_Coder_Pair) Tryz.func153 (by kernel_rfl) (by kernel_rfl) h
noncomputable def pl_recs_May : Plan := ⟨22, [(1, (Tryz.prog.cellsOf 117)), (3, (Tryz.prog.cellsOf 117))], [], [0, 2, 4, 10, 13], [17, 18, 19, 20], []⟩
def vc_recs_May (R : Ending → World → Prop) (w0 : World) (X0 : XS) (p0_0 p0_1 p0_2 p0_3 p0_4 p0_5 p0_6 p0_7 p0_8 p0_9 : Int) (p0_10 : Bool) (p0_11 : Int) (p0_12 : Nat) (p0_13 p0_14 p0_15 p0_16 : Value) (p0_17 p0_18 : Int) (p0_19 p0_20 : Nat) (p0_21 p0_22 p0_23 p0_24 p0_25 p0_26 : Int) (p0_27 p0_28 : Value) : Prop :=
 (eC Tryz.prog R X0 w0 true 222 #[(.agg #[(I p0_0), (I p0_1), (I p0_2), (I p0_3), (I p0_4), (I p0_5), (I p0_6), (I p0_7), (I p0_8), (I p0_9), (B p0_10), (I p0_11), (.float .f64 p0_12), p0_13, p0_14, p0_15, p0_16, (I p0_17), (I p0_18), (.float .f64 p0_19), (.float .f64 p0_20), (I p0_21), (I p0_22), (I p0_23), (I p0_24), (I p0_25), (I p0_26), p0_27, p0_28])] fun a b c =>
 rdV Tryz.prog c b (Instr.extract a 0) fun d =>
 rdV Tryz.prog c b (Instr.extract a 1) fun e =>
 un (Value.agg (Value.cells d)) fun g =>
 chk (List.length (Array.toList (Value.cells d)) == 29) (chk (List.all (Array.toList (Value.cells d)) one) ((rdV Tryz.prog c b (Op.unary UnOp.not e) fun h =>
 (condW h
 (fin R c b (I 7))
 (chk (isA g) (un (subOf g 0 29) fun i =>
 eC Tryz.prog R c b true 223 #[i] fun j k l =>
 rdV Tryz.prog l k (Op.unary UnOp.not j) fun m =>
 un (gSel m false (.agg #[(I p0_0), (I p0_1), (I p0_2), (I p0_3), (I p0_4), (I p0_5), (I p0_6), (I p0_7), (I p0_8), (I p0_9), (B p0_10), (I p0_11), (.float .f64 p0_12), p0_13, p0_14, p0_15, p0_16, (I p0_17), (I p0_18), (.float .f64 p0_19), (.float .f64 p0_20), (I p0_21), (I p0_22), (I p0_23), (I p0_24), (I p0_25), (I p0_26), p0_27, p0_28])) fun n =>
 jn (fun (o : Value) (q : World) (r : XS) =>
 grdW Tryz.prog r q m false (vS (Op.unary UnOp.not o)) fun s =>
 rdW Tryz.prog r q (pickN m (B true) s) fun t =>
 (condW t
 (fin R r q (I 4))
 (fin R r q (I 0)))) fun v =>
 (gE m false (eC Tryz.prog R l k true 224 #[n] v) (v undef k l)))))))))
theorem ok_recs_May {R : Ending → World → Prop} {w0 : World} {p0_0 p0_1 p0_2 p0_3 p0_4 p0_5 p0_6 p0_7 p0_8 p0_9 : Int} {p0_10 : Bool} {p0_11 : Int} {p0_12 : Nat} {p0_13 p0_14 p0_15 p0_16 : Value} {p0_17 p0_18 : Int} {p0_19 p0_20 : Nat} {p0_21 p0_22 p0_23 p0_24 p0_25 p0_26 : Int} {p0_27 p0_28 : Value} (h : vc_recs_May R w0 (old w0) p0_0 p0_1 p0_2 p0_3 p0_4 p0_5 p0_6 p0_7 p0_8 p0_9 p0_10 p0_11 p0_12 p0_13 p0_14 p0_15 p0_16 p0_17 p0_18 p0_19 p0_20 p0_21 p0_22 p0_23 p0_24 p0_25 p0_26 p0_27 p0_28) : Calls Tryz.prog 155 #[(.agg #[(I p0_0), (I p0_1), (I p0_2), (I p0_3), (I p0_4), (I p0_5), (I p0_6), (I p0_7), (I p0_8), (I p0_9), (B p0_10), (I p0_11), (.float .f64 p0_12), p0_13, p0_14, p0_15, p0_16, (I p0_17), (I p0_18), (.float .f64 p0_19), (.float .f64 p0_20), (I p0_21), (I p0_22), (I p0_23), (I p0_24), (I p0_25), (I p0_26), p0_27, p0_28])] w0 R :=
  calls_of_vc (pl := pl_recs_May) Tryz.func155 (by kernel_rfl) (by kernel_rfl) h
noncomputable def pl_wire_NewWriter : Plan := ⟨3, [], [], [0], [], []⟩
def vc_wire_NewWriter (R : Ending → World → Prop) (w0 : World) (X0 : XS) : Prop :=
 (rdV Tryz.prog X0 w0 (bld 308 #[(.slice none 0 0)] #[]) fun a =>
 eV Tryz.prog R X0 w0 true (Instr.box 308 a) fun b c d =>
 (fin R d c b))
theorem ok_wire_NewWriter {R : Ending → World → Prop} {w0 : World} (h : vc_wire_NewWriter R w0 (old w0)) : Calls Tryz.prog 156 #[] w0 R :=
  calls_of_vc (pl := pl_wire_NewWriter) Tryz.func156 (by kernel_rfl) (by kernel_rfl) h
noncomputable def pl_wire_Writer_Bytes : Plan := ⟨9, [], [], [0, 2], [], []⟩
def vc_wire_Writer_Bytes (R : Ending → World → Prop) (w0 : World) (X0 : XS) (p0 : Value) : Prop :=
 (eV Tryz.prog R X0 w0 true (bsS 95 5 1 0 #[]) fun a b c =>
 rdW Tryz.prog c b (nilN p0) fun d =>
 rdV Tryz.prog c b (fld 308 0 0 1 d) fun e =>
 rdV Tryz.prog c b (ld1 95 e) fun g =>
 eV Tryz.prog R c b true (apS 95 5 1 1 95 a g) fun h i j =>
 (fin R j i h))
theorem ok_wire_Writer_Bytes {R : Ending → World → Prop} {w0 : World} {p0 : Value} (h : vc_wire_Writer_Bytes R w0 (old w0) p0) : Calls Tryz.prog 157 #[p0] w0 R :=
  calls_of_vc (pl := pl_wire_Writer_Bytes) Tryz.func157 (by kernel_rfl) (by kernel_rfl) h
noncomputable def pl_datum_May : Plan := ⟨41, [(1, (Tryz.prog.cellsOf 51))], [4, 8, 14, 20, 24, 27, 36], [0, 2, 3, 9, 10, 18, 32], [13, 15, 16, 23, 25, 26, 28, 29, 30, 35, 37, 38, 39], []⟩
def vc_datum_May (R : Ending → World → Prop) (w0 : World) (X0 : XS) (p0_0 : Int) (p0_1 : Nat) (p0_2 : ByteArray) : Prop :=
 (eC Tryz.prog R X0 w0 true 111 #[(.float .f64 p0_1)] fun a b c =>
 rdV Tryz.prog c b (binS .eql 196 (.tmp 6) (.const (Value.int IntKind.u64 0)) a (Value.int IntKind.u64 0)) fun d =>
 ((rdV Tryz.prog c b (binS .eql 3 (.tmp 9) (.const (I 0)) (I p0_0) (I 0)) fun e =>
 (condW e
 (un (gSel d true (.string p0_2)) fun g =>
 grdW Tryz.prog c b d true (vS (binS .eql 9 (.tmp 15) (.const (.string { data := #[] })) g (.string { data := #[] }))) fun h =>
 rdW Tryz.prog c b (pickN d h (B false)) fun i =>
 (fin R c b i))
 (rdV Tryz.prog c b (binS .eql 3 (.tmp 9) (.const (I 1)) (I p0_0) (I 1)) fun j =>
 (condW j
 (rdV Tryz.prog c b (binS .eql 9 (.tmp 21) (.const (.string { data := #[] })) (.string p0_2) (.string { data := #[] })) fun k =>
 un (gSel k true (.float .f64 p0_1)) fun l =>
 jn (fun (m : Value) (n : World) (o : XS) =>
 jn (fun (q : Value) (r : World) (s : XS) =>
 grdW Tryz.prog s r k true (vS (binS .eql 196 (.tmp 26) (.tmp 29) m q)) fun t =>
 rdW Tryz.prog s r (pickN k t (B false)) fun v =>
 (fin R s r v)) fun y =>
 (gE k true (eC Tryz.prog R o n true 225 #[l] y) (y undef n o))) fun z =>
 (gE k true (eC Tryz.prog R c b false 111 #[l] z) (z undef b c)))
 (rdV Tryz.prog c b (binS .eql 3 (.tmp 9) (.const (I 2)) (I p0_0) (I 2)) fun A =>
 (condW A
 (un (gSel d true (.string p0_2)) fun C =>
 grdW Tryz.prog c b d true (vS (lnT 9 3 C)) fun D =>
 grdW Tryz.prog c b d true (vS (binOp .leq 3 D (I 64))) fun E =>
 rdW Tryz.prog c b (pickN d E (B false)) fun F =>
 (fin R c b F))
 (fin R c b (B false))))))))))
theorem ok_datum_May {R : Ending → World → Prop} {w0 : World} {p0_0 : Int} {p0_1 : Nat} {p0_2 : ByteArray} (h : vc_datum_May R w0 (old w0) p0_0 p0_1 p0_2) : Calls Tryz.prog 158 #[(.agg #[(I p0_0), (.float .f64 p0_1), (.string p0_2)])] w0 R :=
  calls_of_vc (pl := pl_datum_May) Tryz.func158 (by kernel_rfl) (by kernel_rfl) h
noncomputable def pl_msgs_ranges : Plan := ⟨9, [], [], [0, 2], [5, 6, 7], []⟩
def vc_msgs_ranges (R : Ending → World → Prop) (w0 : World) (X0 : XS) (p0 : Int) : Prop :=
 (rdV Tryz.prog X0 w0 (binOp .geq 3 (I p0) (I 1)) fun a =>
 un (gSel a true (I p0)) fun b =>
 grdW Tryz.prog X0 w0 a true (vS (binOp .leq 3 b (I 12))) fun c =>
 rdW Tryz.prog X0 w0 (pickN a c (B false)) fun d =>
 (fin R X0 w0 d))
theorem ok_msgs_ranges {R : Ending → World → Prop} {w0 : World} {p0 : Int} (h : vc_msgs_ranges R w0 (old w0) p0) : Calls Tryz.prog 163 #[(I p0)] w0 R :=
  calls_of_vc (pl := pl_msgs_ranges) Tryz.func163 (by kernel_rfl) (by kernel_rfl) h
noncomputable def pl_msgs_dealt : Plan := ⟨131, [(1, (Tryz.prog.cellsOf 48))], [4, 9, 14, 18, 22, 27, 32, 39, 41, 45, 50, 55, 60, 64, 72, 76, 81, 86, 91, 96, 98, 104, 106, 110, 116, 118, 122, 127], [0, 2, 3, 13, 15, 16, 37, 70, 102, 114, 117], [8, 10, 11, 12, 21, 23, 24, 26, 28, 29, 31, 33, 34, 35, 44, 46, 47, 48, 54, 56, 57, 59, 61, 62, 63, 65, 66, 67, 68, 75, 77, 78, 80, 82, 83, 85, 87, 88, 90, 92, 93, 95, 97, 99, 100, 109, 111, 112, 121, 123, 124, 125], []⟩
def vc_msgs_dealt (R : Ending → World → Prop) (w0 : World) (X0 : XS) (p0_0 _p0_1 _p0_2 p0_3 p0_4 p0_5 p0_6 p0_7 p0_8 p0_9 p0_10 p0_11 _p0_12 _p0_13 _p0_14 : Int) (p0_15 : Bool) (_p0_16 _p0_17 : Int) (p0_18 p0_19 p0_20 p0_21 p0_22 _p0_23 : Value) (_p0_24 _p0_25 : Int) (_p0_26 _p0_27 : Nat) (_p0_28 _p0_29 _p0_30 _p0_31 _p0_32 _p0_33 : Int) (_p0_34 _p0_35 : Value) : Prop :=
 (eC Tryz.prog R X0 w0 true 238 #[(.agg #[(I p0_3), (I p0_4), (I p0_5)])] fun a b c =>
 rdV Tryz.prog c b (Op.unary UnOp.not a) fun d =>
 un (gSel d false (I p0_6)) fun e =>
 jn (fun (g : Value) (h : World) (i : XS) =>
 grdW Tryz.prog i h d false (vS (Op.unary UnOp.not g)) fun j =>
 rdW Tryz.prog i h (pickN d (B true) j) fun k =>
 (condW k
 (fin R i h (B false))
 (((rdV Tryz.prog i h (binS .eql 3 (.tmp 15) (.const (I 1)) (I p0_0) (I 1)) fun l =>
 (condW l
 (rdV Tryz.prog i h (binOp .geq 3 (I p0_7) (I 0)) fun m =>
 un (gSel m true (.agg #[(I p0_9), (I p0_10), (I p0_11)])) fun n =>
 jn (fun (o : Value) (q : World) (r : XS) =>
 rdW Tryz.prog r q (pickN m o (B false)) fun s =>
 un (gSel s true p0_18) fun t =>
 jn (fun (v : Value) (y : World) (z : XS) =>
 rdW Tryz.prog z y (pickN s v (B false)) fun A =>
 un (gSel A true p0_18) fun C =>
 grdW Tryz.prog z y A true (vS (lnS 36 3 C)) fun D =>
 grdW Tryz.prog z y A true (vS (binOp .gtr 3 D (I 0))) fun E =>
 rdW Tryz.prog z y (pickN A E (B false)) fun F =>
 (fin R z y F)) fun G =>
 (gE s true (eC Tryz.prog R r q true 239 #[t] G) (G undef q r))) fun H =>
 (gE m true (eC Tryz.prog R i h true 165 #[n] H) (H undef h i)))
 (rdV Tryz.prog i h (binS .eql 3 (.tmp 15) (.const (I 2)) (I p0_0) (I 2)) fun L =>
 (condW L
 (eC Tryz.prog R i h false 241 #[p0_19] fun M N O =>
 un (gSel M true p0_19) fun Q =>
 grdW Tryz.prog O N M true (vS (lnS 37 3 Q)) fun S =>
 grdW Tryz.prog O N M true (vS (binOp .gtr 3 S (I 0))) fun T =>
 rdW Tryz.prog O N (pickN M T (B false)) fun U =>
 eC Tryz.prog R O N true 240 #[(I p0_8), U, p0_22] fun V Y Z =>
 (un (gSel V true (.agg #[(I p0_9), (I p0_10), (I p0_11)])) fun a0 =>
 jn (fun (b0 : Value) (c0 : World) (d0 : XS) =>
 rdW Tryz.prog d0 c0 (pickN V b0 (B false)) fun e0 =>
 un (gSel e0 true (I p0_8)) fun g0 =>
 grdW Tryz.prog d0 c0 e0 true (vS (binS .eql 29 (.tmp 61) (.const (I 0)) g0 (I 0))) fun h0 =>
 un (gSel e0 true h0) fun i0 =>
 un (gSel i0 false p0_19) fun j0 =>
 grdW Tryz.prog d0 c0 i0 false (vS (lnS 37 3 j0)) fun k0 =>
 grdW Tryz.prog d0 c0 i0 false (vS (binS .eql 3 (.tmp 66) (.const (I 0)) k0 (I 0))) fun l0 =>
 grdW Tryz.prog d0 c0 e0 true (pickN i0 (B true) l0) fun m0 =>
 rdW Tryz.prog d0 c0 (pickN e0 m0 (B false)) fun n0 =>
 (fin R d0 c0 n0)) fun o0 =>
 (gE V true (eC Tryz.prog R Z Y true 165 #[a0] o0) (o0 undef Y Z))))
 (rdV Tryz.prog i h (binS .eql 3 (.tmp 15) (.const (I 3)) (I p0_0) (I 3)) fun q0 =>
 (condW q0
 (rdV Tryz.prog i h (binOp .geq 3 (I p0_7) (I 0)) fun r0 =>
 un (gSel r0 true (.agg #[(I p0_9), (I p0_10), (I p0_11)])) fun s0 =>
 jn (fun (t0 : Value) (v0 : World) (y0 : XS) =>
 rdW Tryz.prog y0 v0 (pickN r0 t0 (B false)) fun z0 =>
 un (gSel z0 true p0_19) fun A0 =>
 jn (fun (C0 : Value) (D0 : World) (E0 : XS) =>
 rdW Tryz.prog E0 D0 (pickN z0 C0 (B false)) fun F0 =>
 un (gSel F0 true p0_20) fun G0 =>
 jn (fun (H0 : Value) (L0 : World) (M0 : XS) =>
 rdW Tryz.prog M0 L0 (pickN F0 H0 (B false)) fun N0 =>
 un (gSel N0 true p0_21) fun O0 =>
 jn (fun (Q0 : Value) (S0 : World) (T0 : XS) =>
 rdW Tryz.prog T0 S0 (pickN N0 Q0 (B false)) fun U0 =>
 un (gSel U0 true p0_21) fun V0 =>
 un (gSel U0 true (I p0_6)) fun Y0 =>
 jn (fun (Z0 : Value) (a1 : World) (b1 : XS) =>
 rdW Tryz.prog b1 a1 (pickN U0 Z0 (B false)) fun c1 =>
 (fin R b1 a1 c1)) fun d1 =>
 (gE U0 true (eC Tryz.prog R T0 S0 true 244 #[V0, Y0] d1) (d1 undef S0 T0))) fun e1 =>
 (gE N0 true (eC Tryz.prog R M0 L0 true 243 #[O0] e1) (e1 undef L0 M0))) fun g1 =>
 (gE F0 true (eC Tryz.prog R E0 D0 true 242 #[G0] g1) (g1 undef D0 E0))) fun h1 =>
 (gE z0 true (eC Tryz.prog R y0 v0 true 241 #[A0] h1) (h1 undef v0 y0))) fun i1 =>
 (gE r0 true (eC Tryz.prog R i h true 165 #[s0] i1) (i1 undef h i)))
 (rdV Tryz.prog i h (binS .eql 3 (.tmp 15) (.const (I 4)) (I p0_0) (I 4)) fun j1 =>
 (condW j1
 (eC Tryz.prog R i h true 240 #[(I p0_8), (B true), p0_22] fun k1 l1 m1 =>
 un (gSel k1 true (.agg #[(I p0_9), (I p0_10), (I p0_11)])) fun n1 =>
 jn (fun (o1 : Value) (q1 : World) (r1 : XS) =>
 rdW Tryz.prog r1 q1 (pickN k1 o1 (B false)) fun s1 =>
 (fin R r1 q1 s1)) fun t1 =>
 (gE k1 true (eC Tryz.prog R m1 l1 true 165 #[n1] t1) (t1 undef l1 m1)))
 (rdV Tryz.prog i h (binS .eql 3 (.tmp 15) (.const (I 5)) (I p0_0) (I 5)) fun v1 =>
 (condW v1
 ((condW (B p0_15)
 (eC Tryz.prog R i h true 165 #[(.agg #[(I p0_9), (I p0_10), (I p0_11)])] fun y1 z1 A1 =>
 un (gSel y1 true (.agg #[(I p0_9), (I p0_10), (I p0_11)])) fun C1 =>
 grdW Tryz.prog A1 z1 y1 true (vS (bld 35 #[(I 0), (I 0), (I 0)] #[])) fun D1 =>
 grdW Tryz.prog A1 z1 y1 true (vS (binS .neq 35 (.tmp 123) (.tmp 124) C1 D1)) fun E1 =>
 rdW Tryz.prog A1 z1 (pickN y1 E1 (B false)) fun F1 =>
 (fin R A1 z1 F1))
 ((rdV Tryz.prog i h (bld 35 #[(I 0), (I 0), (I 0)] #[]) fun G1 =>
 rdV Tryz.prog i h (binS .eql 35 (.tmp 128) (.tmp 129) (.agg #[(I p0_9), (I p0_10), (I p0_11)]) G1) fun H1 =>
 (fin R i h H1)))))
 (fin R i h (B true)))))))))))))))) fun L1 =>
 (gE d false (eC Tryz.prog R c b true 163 #[e] L1) (L1 undef b c)))
theorem ok_msgs_dealt {R : Ending → World → Prop} {w0 : World} {p0_0 p0_1 p0_2 p0_3 p0_4 p0_5 p0_6 p0_7 p0_8 p0_9 p0_10 p0_11 p0_12 p0_13 p0_14 : Int} {p0_15 : Bool} {p0_16 p0_17 : Int} {p0_18 p0_19 p0_20 p0_21 p0_22 p0_23 : Value} {p0_24 p0_25 : Int} {p0_26 p0_27 : Nat} {p0_28 p0_29 p0_30 p0_31 p0_32 p0_33 : Int} {p0_34 p0_35 : Value} (h : vc_msgs_dealt R w0 (old w0) p0_0 p0_1 p0_2 p0_3 p0_4 p0_5 p0_6 p0_7 p0_8 p0_9 p0_10 p0_11 p0_12 p0_13 p0_14 p0_15 p0_16 p0_17 p0_18 p0_19 p0_20 p0_21 p0_22 p0_23 p0_24 p0_25 p0_26 p0_27 p0_28 p0_29 p0_30 p0_31 p0_32 p0_33 p0_34 p0_35) : Calls Tryz.prog 164 #[(.agg #[(I p0_0), (I p0_1), (I p0_2), (I p0_3), (I p0_4), (I p0_5), (I p0_6), (I p0_7), (I p0_8), (I p0_9), (I p0_10), (I p0_11), (I p0_12), (I p0_13), (I p0_14), (B p0_15), (I p0_16), (I p0_17), p0_18, p0_19, p0_20, p0_21, p0_22, p0_23, (I p0_24), (I p0_25), (.float .f64 p0_26), (.float .f64 p0_27), (I p0_28), (I p0_29), (I p0_30), (I p0_31), (I p0_32), (I p0_33), p0_34, p0_35])] w0 R :=
  calls_of_vc (pl := pl_msgs_dealt) Tryz.func164 (by kernel_rfl) (by kernel_rfl) h
noncomputable def pl_hlc_May : Plan := ⟨31, [(1, (Tryz.prog.cellsOf 35))], [3, 7, 12, 17, 22, 27], [0, 2], [6, 8, 9, 11, 13, 14, 16, 18, 19, 21, 23, 24, 26, 28, 29], []⟩
def vc_hlc_May (R : Ending → World → Prop) (w0 : World) (X0 : XS) (p0_0 p0_1 p0_2 : Int) : Prop :=
 (rdV Tryz.prog X0 w0 (binOp .geq 3 (I p0_0) (I 0)) fun a =>
 un (gSel a true (I p0_0)) fun b =>
 grdW Tryz.prog X0 w0 a true (vS (binOp .leq 3 b (I 281474976710656))) fun c =>
 rdW Tryz.prog X0 w0 (pickN a c (B false)) fun d =>
 un (gSel d true (I p0_1)) fun e =>
 grdW Tryz.prog X0 w0 d true (vS (binOp .geq 3 e (I 0))) fun g =>
 rdW Tryz.prog X0 w0 (pickN d g (B false)) fun h =>
 un (gSel h true (I p0_1)) fun i =>
 grdW Tryz.prog X0 w0 h true (vS (binOp .leq 3 i (I 65535))) fun j =>
 rdW Tryz.prog X0 w0 (pickN h j (B false)) fun k =>
 un (gSel k true (I p0_2)) fun l =>
 grdW Tryz.prog X0 w0 k true (vS (binOp .geq 3 l (I 0))) fun m =>
 rdW Tryz.prog X0 w0 (pickN k m (B false)) fun n =>
 un (gSel n true (I p0_2)) fun o =>
 grdW Tryz.prog X0 w0 n true (vS (binOp .leq 3 o (I 63))) fun q =>
 rdW Tryz.prog X0 w0 (pickN n q (B false)) fun r =>
 (fin R X0 w0 r))
theorem ok_hlc_May {R : Ending → World → Prop} {w0 : World} {p0_0 p0_1 p0_2 : Int} (h : vc_hlc_May R w0 (old w0) p0_0 p0_1 p0_2) : Calls Tryz.prog 165 #[(.agg #[(I p0_0), (I p0_1), (I p0_2)])] w0 R :=
  calls_of_vc (pl := pl_hlc_May) Tryz.func165 (by kernel_rfl) (by kernel_rfl) h
noncomputable def pl_msgs_batch : Plan := ⟨24, [(4, (Tryz.prog.cellsOf 117))], [], [0, 2, 6, 7, 8, 9, 10, 19], [], [9]⟩
def vc_msgs_batch (R : Ending → World → Prop) (w0 : World) (X0 : XS) (p0 : Value) : Prop :=
 (rdV Tryz.prog X0 w0 (lnS 39 3 p0) fun a =>
 (lp1 X0 w0 (I 0) 9 fun b c d e g =>
 rdV Tryz.prog g e (binOp .lss 3 d a) fun h =>
 (condW h
 ((rdV Tryz.prog g e (ixS 39 29 p0 d) fun i =>
 rdV Tryz.prog g e (ldA 117 29 i) fun j =>
 un (Value.agg (Value.cells j)) fun k =>
 chk (List.length (Array.toList (Value.cells j)) == 29) (chk (List.all (Array.toList (Value.cells j)) one) ((chk (isA k) (un (subOf k 0 29) fun l =>
 eC Tryz.prog R g e true 91 #[l] fun m n o =>
 rdV Tryz.prog o n (Instr.extract m 0) fun _ =>
 rdV Tryz.prog o n (Instr.extract m 1) fun q =>
 (rdV Tryz.prog o n (binS .neq 29 (.tmp 18) (.const (I 0)) q (I 0)) fun r =>
 (condW r
 (fin R o n (B false))
 (((rdV Tryz.prog o n (binOp .add 3 d (I 1)) fun s =>
 nx1 b c s n o)))))))))))
 (((rdV Tryz.prog g e (lnS 39 3 p0) fun t =>
 rdV Tryz.prog g e (binOp .leq 3 t (I 8)) fun v =>
 (fin R g e v)))))))
theorem ok_msgs_batch {R : Ending → World → Prop} {w0 : World} {p0 : Value} (h : vc_msgs_batch R w0 (old w0) p0) : Calls Tryz.prog 166 #[p0] w0 R :=
  calls_of_vc (pl := pl_msgs_batch) Tryz.func166 (by kernel_rfl) (by kernel_rfl) h
end Go.Proofs.YtpdkoaklobnegaaGreat
