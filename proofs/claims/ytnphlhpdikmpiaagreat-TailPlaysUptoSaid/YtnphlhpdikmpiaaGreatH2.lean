/-
  Part 2 of the proof: what the last text leans on.
-/
import Derived.Laws.Slices
import Derived.Test.YtnphlhpdikmpiaaGreatProg
import Derived.KernelRfl
import Derived.Test.YtnphlhpdikmpiaaGreatH1
set_option linter.unusedSectionVars false
namespace Go.Eng
variable {P : Program} {R : Ending → World → Prop} {X Y A A' : XS} {w w' : World} {m : Bool} {κ : Type} [DecidableEq κ] {α : Type}
def fieldAgg (P : Program) (S f : Nat) : Option Bool := match P.underlying S with
  | some (.struct fs) => match fs[f]? with
    | some x => match P.underlying x.type with
      | some (.struct _) | some (.array _ _) => some true
      | some _ => some false
      | none => none
    | none => none
  | _ => none
def MovesV (rd : World → XS → Value → α → Prop) : Prop := ∀ (X Y : XS) (w w' : World) (v : Value) (x : α), rd w X v x → Mv X w Y w' → rd w' Y v x
def Rep (w : World) (A : XS) (rd : World → XS → Value → α → Prop) : List (Ent κ) → List (κ × α) → Prop
  | [], [] => True
  | e :: es, x :: l => e.1 = x.1 ∧ rd w A e.2.1 x.2 ∧ Rep w A rd es l
  | _, _ => False
theorem Rep.mv {rd : World → XS → Value → α → Prop} (hm : MovesV rd) (v : Mv A w A' w') : ∀ {es : List (Ent κ)} {l : List (κ × α)}, Rep w A rd es l → Rep w' A' rd es l
  | [], [], _ => trivial
  | _ :: _, _ :: _, ⟨h1, h2, h3⟩ => ⟨h1, hm _ _ _ _ _ _ h2 v, Rep.mv hm v h3⟩
  | [], _ :: _, h => h.elim
  | _ :: _, [], h => h.elim
theorem Rep.keys {rd : World → XS → Value → α → Prop} : ∀ {es : List (Ent κ)} {l : List (κ × α)}, Rep w A rd es l → es.map (·.1) = l.map (·.1)
  | [], [], _ => rfl
  | _ :: _, _ :: _, ⟨h1, _, h3⟩ => by simp [h1, Rep.keys h3]
  | [], _ :: _, h => h.elim
  | _ :: _, [], h => h.elim
def getM (k : κ) (l : List (κ × α)) : Option α := (l.find? fun x => decide (x.1 = k)).map (·.2)
def putM (k : κ) (a : α) : List (κ × α) → List (κ × α)
  | [] => [(k, a)]
  | x :: l => if x.1 = k then (k, a) :: l else x :: putM k a l
def delM (k : κ) (l : List (κ × α)) : List (κ × α) := l.filter fun x => decide (x.1 ≠ k)
theorem Rep.get {rd : World → XS → Value → α → Prop} (k : κ) : ∀ {es : List (Ent κ)} {l : List (κ × α)}, Rep w A rd es l →
    (getE k es = none ∧ getM k l = none) ∨ ∃ v a, getE k es = some v ∧ getM k l = some a ∧ rd w A v a
  | [], [], _ => .inl ⟨rfl, rfl⟩
  | e :: es, x :: l, ⟨h1, h2, h3⟩ => by
    by_cases hk : x.1 = k
    · exact .inr ⟨e.2.1, x.2, by simp [getE, h1, hk], by simp [getM, hk], h2⟩
    · rcases Rep.get k h3 with ⟨q1, q2⟩ | ⟨v, a, q1, q2, q3⟩
      · left; constructor
        · simp only [getE, List.find?_cons, h1, hk, decide_false, Bool.false_eq_true, if_false]; exact q1
        · simp only [getM, List.find?_cons, hk, decide_false, Bool.false_eq_true, if_false]; exact q2
      · right; refine ⟨v, a, ?_, ?_, q3⟩
        · simp only [getE, List.find?_cons, h1, hk, decide_false, Bool.false_eq_true, if_false]; exact q1
        · simp only [getM, List.find?_cons, hk, decide_false, Bool.false_eq_true, if_false]; exact q2
  | [], _ :: _, h => h.elim
  | _ :: _, [], h => h.elim
def putE' (k : κ) (v : Value) (c : Nat) : List (Ent κ) → List (Ent κ)
  | [] => [(k, v, c)]
  | e :: es => if e.1 = k then (e.1, v, e.2.2) :: es else e :: putE' k v c es
theorem putE_eq (k : κ) (v : Value) (c : Nat) (es : List (Ent κ)) : (putE k v c es).1 = putE' k v c es := by
  induction es with
  | nil => simp [putE, putE']
  | cons e es ih =>
    unfold putE at ih ⊢
    by_cases hk : e.1 = k
    · simp [List.findIdx?_cons, hk, putE']
    · simp only [List.findIdx?_cons, hk, decide_false, Bool.false_eq_true, if_false, putE']
      cases hf : es.findIdx? fun x => decide (x.1 = k) with
      | none => rw [hf] at ih; simp only [Option.map_none, List.cons_append] at ih ⊢; rw [ih]
      | some j => rw [hf] at ih; simp only [Option.map_some, List.modify_succ_cons] at ih ⊢; rw [ih]
theorem Rep.put {rd : World → XS → Value → α → Prop} {k : κ} {v : Value} {a : α} {c : Nat} (hv : rd w A v a) : ∀ {es : List (Ent κ)} {l : List (κ × α)}, Rep w A rd es l → Rep w A rd (putE' k v c es) (putM k a l)
  | [], [], _ => ⟨rfl, hv, trivial⟩
  | e :: es, x :: l, ⟨h1, h2, h3⟩ => by
    unfold putE' putM
    by_cases hk : x.1 = k
    · rw [if_pos (h1.trans hk), if_pos hk]; exact ⟨h1.trans hk, hv, h3⟩
    · rw [if_neg (by rw [h1]; exact hk), if_neg hk]; exact ⟨h1, h2, Rep.put hv h3⟩
  | [], _ :: _, h => h.elim
  | _ :: _, [], h => h.elim
def delE' (k : κ) (es : List (Ent κ)) : List (Ent κ) := es.filter fun x => decide (x.1 ≠ k)
theorem delE_eq (k : κ) : ∀ (es : List (Ent κ)), (es.map (·.1)).Nodup → delE k es = delE' k es
  | [], _ => rfl
  | e :: es, h => by
    have h' : (es.map (·.1)).Nodup := (List.nodup_cons.1 h).2
    have ih := delE_eq k es h'
    unfold delE at ih ⊢
    by_cases hk : e.1 = k
    · have : es.filter (fun x => decide (x.1 ≠ k)) = es := List.filter_eq_self.2 fun x hx => by
        have : x.1 ≠ k := fun hxk => (List.nodup_cons.1 h).1 (by simp only [List.mem_map]; exact ⟨x, hx, by rw [hxk, hk]⟩)
        simpa using this
      simp only [delE'] at this ⊢
      simp only [List.findIdx?_cons, hk, decide_true, if_true, List.eraseIdx_cons_zero, ne_eq, not_true_eq_false, decide_false, List.filter_cons, Bool.false_eq_true, if_false]
      exact this.symm
    · simp only [List.findIdx?_cons, hk, decide_false, Bool.false_eq_true, if_false]
      cases hf : es.findIdx? fun x => decide (x.1 = k) with
      | none => rw [hf] at ih; simp only [Option.map_none]; simp only at ih; rw [ih]; simp [delE', hk, ← ih]
      | some j => rw [hf] at ih; simp only [Option.map_some, List.eraseIdx_cons_succ] at ih ⊢; rw [ih]; simp [delE', hk]
theorem Rep.filter {rd : World → XS → Value → α → Prop} (p : κ → Bool) : ∀ {es : List (Ent κ)} {l : List (κ × α)}, Rep w A rd es l → Rep w A rd (es.filter fun x => p x.1) (l.filter fun x => p x.1)
  | [], [], _ => trivial
  | e :: es, x :: l, ⟨h1, h2, h3⟩ => by
    have ih := Rep.filter p h3
    by_cases hp : p x.1 = true
    · simp only [List.filter_cons, h1, hp, if_true]; exact ⟨h1, h2, ih⟩
    · simp only [List.filter_cons, h1, hp, if_false]; exact ih
  | [], _ :: _, h => h.elim
  | _ :: _, [], h => h.elim
theorem Rep.mem {rd : World → XS → Value → α → Prop} : ∀ {es : List (Ent κ)} {l : List (κ × α)}, Rep w A rd es l → ∀ e ∈ es, ∃ a, (e.1, a) ∈ l ∧ rd w A e.2.1 a
  | [], [], _, _, h => by cases h
  | e0 :: es, x :: l, ⟨h1, h2, h3⟩, e, he => by
    rcases List.mem_cons.1 he with rfl | he
    · exact ⟨x.2, by rw [h1]; simp, h2⟩
    · obtain ⟨a, ha, hr⟩ := Rep.mem h3 e he
      exact ⟨a, List.mem_cons_of_mem _ ha, hr⟩
  | [], _ :: _, h, _, _ => h.elim
  | _ :: _, [], h, _, _ => h.elim
def MapR (w : World) (X A : XS) (b : Nat) (kv : κ → Value) (rd : World → XS → Value → α → Prop) (l : List (κ × α)) : Prop :=
  ∃ es c, MapIs w X b kv es c ∧ Rep w A rd es l
theorem MapR.mv {b : Nat} {kv : κ → Value} {rd : World → XS → Value → α → Prop} {l : List (κ × α)} (h : MapR w X A b kv rd l) (hm : MovesV rd) (v : Mv X w Y w') (va : Mv A w A' w') : MapR w' Y A' b kv rd l :=
  let ⟨es, c, h1, h2⟩ := h
  ⟨es, c, h1.mv v, h2.mv hm va⟩
theorem MapR.nodup {b : Nat} {kv : κ → Value} {rd : World → XS → Value → α → Prop} {l : List (κ × α)} (h : MapR w X A b kv rd l) : (l.map (·.1)).Nodup := by
  obtain ⟨es, c, h1, h2⟩ := h; rw [← h2.keys]; exact h1.2.2.1
theorem MapR.x {b : Nat} {kv : κ → Value} {rd : World → XS → Value → α → Prop} {l : List (κ × α)} (h : MapR w X A b kv rd l) : X b ∧ b < w.heap.size :=
  let ⟨_, _, h1, _⟩ := h
  ⟨h1.1, (Array.getElem?_eq_some_iff.1 h1.2.1).1⟩
theorem MapR.own {b : Nat} {kv : κ → Value} {rd : World → XS → Value → α → Prop} {l : List (κ × α)} (h : MapR w X A b kv rd l) : MapR w (fun k => k = b) A b kv rd l :=
  let ⟨es, c, h1, h2⟩ := h
  ⟨es, c, ⟨rfl, h1.2⟩, h2⟩
theorem RowIs.own {b : Nat} {cs : List Value} {ty : TypeId} (h : RowIs w X b cs ty) : RowIs w (fun k => k = b) b cs ty := ⟨rfl, h.2⟩
theorem RowIs.lt {b : Nat} {cs : List Value} {ty : TypeId} (h : RowIs w X b cs ty) : b < w.heap.size := (Array.getElem?_eq_some_iff.1 h.2).1
theorem Mv.one {b : Nat} (hk : Kp X w w') (hb : X b) (hy : Y b) : Mv (fun k => k = b) w Y w' := fun k hk' _ => by subst hk'; exact ⟨hy, hk.block _ hb⟩
theorem m_makeMap {t : TypeId} {kv : κ → Value} (rd : World → XS → Value → α → Prop) (A : XS) {N : Value → World → XS → Prop} (hX : ∀ k, X k → k < w.heap.size)
    (n : ∀ b w' X', w.heap.size ≤ b → Since X w X' w' → MapR w' X' A b kv rd [] → N (.map (some b)) w' X') : eV P R X w m (Instr.makeMap t none) N :=
  eV_makeMap hX fun b w' X' hb hs hm => n b w' X' hb hs ⟨[], 0, hm, trivial⟩
theorem m_mapGet {t kt et b : Nat} {kv : κ → Value} {rd : World → XS → Value → α → Prop} {l : List (κ × α)} {k : κ} {N : Value → Prop} (z : Value) (h : MapR w X A b kv rd l) (K : KeyOf P kt kv)
    (ht : P.underlying t = some (.map kt et)) (hz : (P.info? et).bind (·.zero) = some z)
    (n1 : ∀ v a, getM k l = some a → rd w A v a → N (.tuple #[v, .bool true])) (n0 : getM k l = none → N (.tuple #[z, .bool false])) :
    rdV P X w (Instr.lookup t (.map (some b)) (kv k) true) N := by
  obtain ⟨es, c, h1, h2⟩ := h
  refine rdV_lookup z h1 K ht hz ?_
  rcases h2.get k with ⟨q1, q2⟩ | ⟨v, a, q1, q2, q3⟩
  · rw [q1]; exact n0 q2
  · rw [q1]; exact n1 v a q2 q3
theorem m_mapGet1 {t kt et b : Nat} {kv : κ → Value} {rd : World → XS → Value → α → Prop} {l : List (κ × α)} {k : κ} {N : Value → Prop} (z : Value) (h : MapR w X A b kv rd l) (K : KeyOf P kt kv)
    (ht : P.underlying t = some (.map kt et)) (hz : (P.info? et).bind (·.zero) = some z)
    (n1 : ∀ v a, getM k l = some a → rd w A v a → N v) (n0 : getM k l = none → N z) :
    rdV P X w (Instr.lookup t (.map (some b)) (kv k) false) N := by
  have key : ∀ u q, (∀ wa, Kp X w wa → (Instr.lookup t (.map (some b)) (kv k) true).run P wa = .ok (.tuple #[u, .bool q]) wa) → ∀ wa, Kp X w wa → (Instr.lookup t (.map (some b)) (kv k) false).run P wa = .ok u wa := by
    intro u q hq wa hk
    have h1 := hq wa hk
    obtain ⟨es, c, hm, _⟩ := h
    have hb := (hm.kp hk).2.1
    simp only [Instr.lookup, Sem.run_bind, run_underlying ht, Result.andThen_ok, getObj, Sem.run, hb, K.chk, List.toList_toArray, K.find] at h1 ⊢
    cases hf : findI k es 0 with
    | none =>
      cases hi : P.info? et with
      | none => simp [hi] at hz
      | some inf =>
        have hz' : inf.zero = some z := by simpa [hi] using hz
        simp [zeroValue, typeInfo, hi, hz', K.find, hf] at h1 ⊢
        exact h1.1
    | some r =>
      simp [K.find, hf] at h1 ⊢
      exact h1.1
  have := m_mapGet (N := fun v => ∃ u q, v = .tuple #[u, .bool q] ∧ N u) z h K ht hz (fun v a h1 h2 => ⟨v, _, rfl, n1 v a h1 h2⟩) (fun h0 => ⟨z, _, rfl, n0 h0⟩)
  obtain ⟨v, hv, u, q, rfl, hn⟩ := this
  refine rdV_of u (key u q fun wa hk => ?_) hn
  have := hv wa hk
  simp only [vS, Sem.run_bind] at this
  cases hr : (Instr.lookup t (.map (some b)) (kv k) true).run P wa with
  | ok a w2 => rw [hr] at this; simp only [Result.andThen_ok, Sem.run_pure, Result.ok.injEq, Next.value.injEq] at this; rw [this.1, this.2]
  | halt a w2 => rw [hr] at this; simp [Result.andThen] at this
theorem m_mapPut {t kt et b : Nat} {kv : κ → Value} {rd : World → XS → Value → α → Prop} {l : List (κ × α)} {k : κ} {v : Value} {a : α} {N : Value → World → XS → Prop} (h : MapR w X A b kv rd l) (hm : MovesV rd)
    (hv : rd w A v a) (hA : ∀ k, A k → X k ∧ k ≠ b) (K : KeyOf P kt kv) (ht : P.underlying t = some (.map kt et)) (hX : ∀ k, X k → k < w.heap.size)
    (n : ∀ w' X', Chg (· = b) X w X' w' → MapR w' X' A b kv rd (putM k a l) → N undef w' X') :
    eU P R X w true (Instr.mapUpdate t (.map (some b)) (kv k) v) N := by
  obtain ⟨es, c, h1, h2⟩ := h
  refine eU_put h1 K ht hX fun w' X' hg hi => ?_
  have hc : Chg (· = b) X w X' w' := hg.chg.mono fun k _ hk => by simpa using hk
  refine n w' X' hc ⟨_, _, hi, ?_⟩
  rw [putE_eq]
  have mv : Mv A w A w' := fun k hk _ => ⟨hk, hc.block k (hA k hk).1 (hA k hk).2⟩
  exact (h2.put hv).mv hm mv
theorem m_mapDel {t kt et tk ty b : Nat} {kv : κ → Value} {rd : World → XS → Value → α → Prop} {l : List (κ × α)} {k : κ} {N : Value → World → XS → Prop} (h : MapR w X A b kv rd l) (hm : MovesV rd)
    (hA : ∀ k, A k → X k ∧ k ≠ b) (K : KeyOf P kt kv) (ht : P.underlying t = some (.map kt et)) (hX : ∀ k, X k → k < w.heap.size)
    (n : ∀ w' X', Chg (· = b) X w X' w' → MapR w' X' A b kv rd (delM k l) → N (.tuple #[]) w' X') :
    eV P R X w true (Builtin.delete_ #[t, tk] ty #[.map (some b), kv k]) N := by
  obtain ⟨es, c, h1, h2⟩ := h
  refine eV_delete h1 K ht hX fun w' X' hg hi => ?_
  have hc : Chg (· = b) X w X' w' := hg.chg.mono fun k _ hk => by simpa using hk
  refine n w' X' hc ⟨_, _, hi, ?_⟩
  rw [delE_eq _ _ h1.2.2.1]
  have mv : Mv A w A w' := fun k hk _ => ⟨hk, hc.block k (hA k hk).1 (hA k hk).2⟩
  exact (h2.filter (fun x => decide (x ≠ k))).mv hm mv
def ItR (w : World) (X A : XS) (r b : Nat) (kv : κ → Value) (rd : World → XS → Value → α → Prop) (l left : List (κ × α)) : Prop :=
  ∃ es c les, ItIs w X r b kv es c les ∧ Rep w A rd es l ∧ Rep w A rd les left ∧ les.Sublist es
theorem ItR.mv {r b : Nat} {kv : κ → Value} {rd : World → XS → Value → α → Prop} {l left : List (κ × α)} (h : ItR w X A r b kv rd l left) (hm : MovesV rd) (v : Mv X w Y w') (va : Mv A w A' w') : ItR w' Y A' r b kv rd l left := by
  obtain ⟨es, c, les, h1, h2, h3, h4⟩ := h
  refine ⟨es, c, les, ⟨h1.1.mv v, ?_, h1.2.2.1, ?_⟩, h2.mv hm va, h3.mv hm va, h4⟩
  · obtain ⟨s, hs, _⟩ := h1.2.2.2
    exact (v r h1.2.1 (Array.getElem?_eq_some_iff.1 hs).1).1
  · obtain ⟨s, hs, hl⟩ := h1.2.2.2
    exact ⟨s, by rw [(v r h1.2.1 (Array.getElem?_eq_some_iff.1 hs).1).2]; exact hs, hl⟩
theorem ItR.nodup {r b : Nat} {kv : κ → Value} {rd : World → XS → Value → α → Prop} {l left : List (κ × α)} (h : ItR w X A r b kv rd l left) : (left.map (·.1)).Nodup := by
  obtain ⟨es, c, les, h1, h2, h3, h4⟩ := h
  rw [← h3.keys]
  exact h1.1.2.2.1.sublist (h4.map _)
theorem any_split {l : List (κ × α)} (c : κ × α → Bool) : (l.map (·.1)).Nodup → ∀ {k : κ} {a : α}, (k, a) ∈ l → l.any c = (c (k, a) || (l.filter fun y => decide (y.1 ≠ k)).any c) := by
  induction l with
  | nil => intro _ k a h; cases h
  | cons x l ih =>
    intro hn k a h
    have hn' := List.nodup_cons.1 hn
    rcases List.mem_cons.1 h with h | h
    · subst h
      have : l.filter (fun y => decide (y.1 ≠ k)) = l := List.filter_eq_self.2 fun y hy => by
        have : y.1 ≠ k := fun e => hn'.1 (List.mem_map.2 ⟨y, hy, e⟩)
        simpa using this
      simp only [List.any_cons, List.filter_cons, ne_eq, not_true_eq_false, decide_false, Bool.false_eq_true, if_false]
      simp only [ne_eq] at this
      rw [this]
    · have hx : x.1 ≠ k := fun e => hn'.1 (List.mem_map.2 ⟨(k, a), h, e.symm⟩)
      have := ih hn'.2 h
      simp only [List.any_cons, List.filter_cons, hx, ne_eq, not_false_eq_true, decide_true, if_true]
      simp only [ne_eq] at this
      rw [this, ← Bool.or_assoc, ← Bool.or_assoc, Bool.or_comm (c x)]
theorem fold_split {β : Type} {f : β → κ × α → β} (hf : ∀ s x y, f (f s x) y = f (f s y) x) {l : List (κ × α)} : ∀ {k : κ} {a : α} (s : β), (l.map (·.1)).Nodup → (k, a) ∈ l →
    l.foldl f s = (l.filter fun y => decide (y.1 ≠ k)).foldl f (f s (k, a)) := by
  induction l with
  | nil => intro k a s _ h; cases h
  | cons x l ih =>
    intro k a s hn h
    have hn' := List.nodup_cons.1 hn
    rcases List.mem_cons.1 h with h | h
    · subst h
      have : l.filter (fun y => decide (y.1 ≠ k)) = l := List.filter_eq_self.2 fun y hy => by
        have : y.1 ≠ k := fun e => hn'.1 (List.mem_map.2 ⟨y, hy, e⟩)
        simpa using this
      simp only [List.foldl_cons, List.filter_cons, ne_eq, not_true_eq_false, decide_false, Bool.false_eq_true, if_false]
      simp only [ne_eq] at this
      rw [this]
    · have hx : x.1 ≠ k := fun e => hn'.1 (List.mem_map.2 ⟨(k, a), h, e.symm⟩)
      have := ih (f s x) hn'.2 h
      simp only [List.foldl_cons, List.filter_cons, hx, ne_eq, not_false_eq_true, decide_true, if_true]
      simp only [ne_eq] at this
      rw [this, hf]
theorem left_lt {l : List (κ × α)} {k : κ} {a : α} (h : (k, a) ∈ l) : (l.filter fun y => decide (y.1 ≠ k)).length < l.length := by
  refine Nat.lt_of_le_of_ne (List.length_filter_le _ _) fun e => ?_
  have := List.length_filter_eq_length_iff.1 e (k, a) h
  simp at this
theorem Since.mvA {X0 : XS} {w0 : World} (h : Since X0 w0 X w) (hA : ∀ k, A k → X0 k) : Mv A w0 A w := fun k hk _ => ⟨hk, h.kp.block k (hA k hk)⟩
theorem m_range {t kt et b : Nat} {kv : κ → Value} {rd : World → XS → Value → α → Prop} {l : List (κ × α)} {N : Value → World → XS → Prop} (h : MapR w X A b kv rd l) (hm : MovesV rd) (hA : ∀ k, A k → X k)
    (ht : P.underlying t = some (.map kt et)) (hX : ∀ k, X k → k < w.heap.size)
    (n : ∀ r w' X', w.heap.size ≤ r → Since X w X' w' → ItR w' X' A r b kv rd l l → N (ptr r 0) w' X') : eV P R X w m (Instr.range t (.map (some b))) N := by
  obtain ⟨es, c, h1, h2⟩ := h
  refine eV_range h1 ht hX fun r w' X' hr hs hi => n r w' X' hr hs ?_
  have mv : Mv A w A w' := fun k hk _ => ⟨hk, hs.kp.block k (hA k hk)⟩
  exact ⟨es, c, es, hi, h2.mv hm mv, h2.mv hm mv, List.Sublist.refl _⟩
theorem m_next {ty r b : Nat} {kv : κ → Value} {rd : World → XS → Value → α → Prop} {l left : List (κ × α)} {N : Value → World → XS → Prop} (h : ItR w X A r b kv rd l left) (hm : MovesV rd)
    (hA : ∀ k, A k → X k ∧ k ≠ r) (hX : ∀ k, X k → k < w.heap.size)
    (n0 : left = [] → ∀ w' X', Since X w X' w' → N (.tuple #[.bool false]) w' X')
    (n1 : ∀ k a v, (k, a) ∈ left → ∀ w' X', Chg (· = r) X w X' w' → rd w' A v a → ItR w' X' A r b kv rd l (left.filter fun y => decide (y.1 ≠ k)) →
      (∀ wa, Kp X' w' wa → (Instr.entry (ptr r 0)).run P wa = .ok (.tuple #[kv k, v]) wa) → N (.tuple #[.bool true, kv k, v]) w' X') :
    eV P R X w true (Instr.next (ptr r 0) false ty) N := by
  obtain ⟨es, c, les, h1, h2, h3, h4⟩ := h
  refine eV_next h1 hX (fun h0 w' X' hs => n0 ?_ w' X' hs) fun x hx w' X' hg hi he => ?_
  · subst h0; cases left with
    | nil => rfl
    | cons y t => exact h3.elim
  · have hc : Chg (· = r) X w X' w' := hg.chg.mono fun k _ hk => by simpa using hk
    have mv : Mv A w A w' := fun k hk _ => ⟨hk, hc.block k (hA k hk).1 (hA k hk).2⟩
    obtain ⟨a, ha, hra⟩ := h3.mem x hx
    refine n1 x.1 a x.2.1 ha w' X' hc (hm _ _ _ _ _ _ hra mv) ?_ he
    have hk : ∀ y ∈ les, decide (y.2.2 ≠ x.2.2) = decide (y.1 ≠ x.1) := by
      intro y hy
      have hye := h4.subset hy
      have hxe := h4.subset hx
      have n1 := h1.1.2.2.1
      have n2 := h1.1.2.2.2.1
      obtain ⟨i, hi9, rfl⟩ := List.getElem_of_mem hye
      obtain ⟨j, hj, rfl⟩ := List.getElem_of_mem hxe
      have inj : ∀ {β : Type} (f : Ent κ → β), (es.map f).Nodup → (f es[i] = f es[j] ↔ i = j) := by
        intro β f n
        constructor
        · intro e
          have hp := List.pairwise_iff_getElem.1 n
          rcases Nat.lt_trichotomy i j with h | h | h
          · exact absurd (by rw [List.getElem_map, List.getElem_map]; exact e) (hp i j (by simpa using hi9) (by simpa using hj) h)
          · exact h
          · exact absurd (by rw [List.getElem_map, List.getElem_map]; exact e.symm) (hp j i (by simpa using hj) (by simpa using hi9) h)
        · rintro rfl; rfl
      have e1 := inj (·.1) n1
      have e2 := inj (·.2.2) n2
      simp only [ne_eq, e1, e2]
    have hf : (les.filter fun y => decide (y.2.2 ≠ x.2.2)) = les.filter fun y => decide (y.1 ≠ x.1) := List.filter_congr hk
    refine ⟨es, c, _, hi, h2.mv hm mv, ?_, ?_⟩
    · rw [hf]; exact (h3.filter (fun k => decide (k ≠ x.1))).mv hm mv
    · exact (List.filter_sublist).trans h4
theorem m_entry {r : Nat} {k v : Value} {N : Value → World → XS → Prop} (hX : ∀ k, X k → k < w.heap.size)
    (h : ∀ wa, Kp X w wa → (Instr.entry (ptr r 0)).run P wa = .ok (.tuple #[k, v]) wa) (n : ∀ w' X', Since X w X' w' → N (.tuple #[k, v]) w' X') :
    eV P R X w m (Instr.entry (ptr r 0)) N := eV_entry hX h n
def RepX (w : World) (A : XS) (rd : World → XS → Value → α → Prop) (k : κ) : List (Ent κ) → List (κ × α) → Prop
  | [], [] => True
  | e :: es, x :: l => e.1 = x.1 ∧ (x.1 ≠ k → rd w A e.2.1 x.2) ∧ RepX w A rd k es l
  | _, _ => False
def MapRX (w : World) (X A : XS) (b : Nat) (kv : κ → Value) (rd : World → XS → Value → α → Prop) (k : κ) (l : List (κ × α)) : Prop :=
  ∃ es c, MapIs w X b kv es c ∧ RepX w A rd k es l
theorem Rep.toX {rd : World → XS → Value → α → Prop} {k : κ} : ∀ {es : List (Ent κ)} {l : List (κ × α)}, Rep w A rd es l →
    (∀ x v, x ∈ l → x.1 ≠ k → rd w A v x.2 → rd w' A' v x.2) → RepX w' A' rd k es l
  | [], [], _, _ => trivial
  | e :: es, x :: l, ⟨h1, h2, h3⟩, hm => ⟨h1, fun hk => hm x _ (by simp) hk h2, Rep.toX h3 fun y v hy => hm y v (by simp [hy])⟩
  | [], _ :: _, h, _ => h.elim
  | _ :: _, [], h, _ => h.elim
theorem MapR.toX {b : Nat} {kv : κ → Value} {rd : World → XS → Value → α → Prop} {k : κ} {l : List (κ × α)} (h : MapR w X A b kv rd l) (m : Mv (fun g => g = b) w Y w')
    (hm : ∀ x v, x ∈ l → x.1 ≠ k → rd w A v x.2 → rd w' A' v x.2) : MapRX w' Y A' b kv rd k l := by
  obtain ⟨es, c, h1, h2⟩ := h
  exact ⟨es, c, MapIs.mv (X := fun g => g = b) ⟨rfl, h1.2⟩ m, h2.toX hm⟩
theorem RepX.put {rd : World → XS → Value → α → Prop} {k : κ} {v : Value} {a : α} {c : Nat} (hv : rd w A v a) : ∀ {es : List (Ent κ)} {l : List (κ × α)}, (es.map (·.1)).Nodup → RepX w A rd k es l → Rep w A rd (putE' k v c es) (putM k a l)
  | [], [], _, _ => ⟨rfl, hv, trivial⟩
  | e :: es, x :: l, hn, ⟨h1, h2, h3⟩ => by
    have hn' := List.nodup_cons.1 hn
    unfold putE' putM
    by_cases hk : x.1 = k
    · rw [if_pos (h1.trans hk), if_pos hk]
      refine ⟨h1.trans hk, hv, ?_⟩
      have hne : ∀ y ∈ es, y.1 ≠ k := fun y hy e' => hn'.1 (List.mem_map.2 ⟨y, hy, e'.trans (hk.symm.trans h1.symm)⟩)
      clear hn hn' h1 h2
      induction es generalizing l with
      | nil => cases l <;> first | trivial | exact h3.elim
      | cons e2 es ih =>
        cases l with
        | nil => exact h3.elim
        | cons y l => exact ⟨h3.1, h3.2.1 (h3.1 ▸ hne e2 (by simp)), ih l h3.2.2 fun z hz => hne z (by simp [hz])⟩
    · rw [if_neg (by rw [h1]; exact hk), if_neg hk]; exact ⟨h1, h2 hk, RepX.put hv hn'.2 h3⟩
  | [], _ :: _, _, h => h.elim
  | _ :: _, [], _, h => h.elim
theorem m_mapPutX {t kt et b : Nat} {kv : κ → Value} {rd : World → XS → Value → α → Prop} {l : List (κ × α)} {k : κ} {v : Value} {a : α} {N : Value → World → XS → Prop} (h : MapRX w X A b kv rd k l) (hm : MovesV rd)
    (hv : rd w A v a) (hA : ∀ k, A k → X k ∧ k ≠ b) (K : KeyOf P kt kv) (ht : P.underlying t = some (.map kt et)) (hX : ∀ k, X k → k < w.heap.size)
    (n : ∀ w' X', Chg (· = b) X w X' w' → MapR w' X' A b kv rd (putM k a l) → N undef w' X') :
    eU P R X w true (Instr.mapUpdate t (.map (some b)) (kv k) v) N := by
  obtain ⟨es, c, h1, h2⟩ := h
  refine eU_put h1 K ht hX fun w' X' hg hi => ?_
  have hc : Chg (· = b) X w X' w' := hg.chg.mono fun k _ hk => by simpa using hk
  refine n w' X' hc ⟨_, _, hi, ?_⟩
  rw [putE_eq]
  have mv : Mv A w A w' := fun k hk _ => ⟨hk, hc.block k (hA k hk).1 (hA k hk).2⟩
  exact (h2.put hv h1.2.2.1).mv hm mv
theorem mem_get {l : List (κ × α)} {k : κ} {a : α} (h : getM k l = some a) : (k, a) ∈ l := by
  unfold getM at h
  obtain ⟨x, hx, rfl⟩ := Option.map_eq_some_iff.1 h
  have h1 := List.mem_of_find?_eq_some hx
  have h2 : x.1 = k := by simpa using List.find?_some hx
  subst h2; exact h1
theorem getM_of_mem {l : List (κ × α)} (hn : (l.map (·.1)).Nodup) {k : κ} {a : α} (h : (k, a) ∈ l) : getM k l = some a := by
  induction l with
  | nil => cases h
  | cons x l ih =>
    have hn' := List.nodup_cons.1 hn
    rcases List.mem_cons.1 h with h | h
    · subst h; simp [getM]
    · have hx : x.1 ≠ k := fun e => hn'.1 (List.mem_map.2 ⟨(k, a), h, e.symm⟩)
      have := ih hn'.2 h
      simp only [getM, List.find?_cons, hx, decide_false, Bool.false_eq_true, if_false]
      exact this
theorem mem_putM {l : List (κ × α)} {k : κ} {a : α} : ∀ {x : κ × α}, (l.map (·.1)).Nodup → x ∈ putM k a l → x = (k, a) ∨ (x ∈ l ∧ x.1 ≠ k) := by
  induction l with
  | nil => intro x _ h; left; simpa [putM] using h
  | cons y l ih =>
    intro x hn h
    have hn' := List.nodup_cons.1 hn
    unfold putM at h
    split at h
    · rename_i hy
      rcases List.mem_cons.1 h with h | h
      · exact .inl h
      · exact .inr ⟨by simp [h], fun e => hn'.1 (List.mem_map.2 ⟨x, h, e.trans hy.symm⟩)⟩
    · rename_i hy
      rcases List.mem_cons.1 h with h | h
      · exact .inr ⟨by simp [h], by rw [h]; exact hy⟩
      · rcases ih hn'.2 h with h | ⟨h, h2⟩
        · exact .inl h
        · exact .inr ⟨by simp [h], h2⟩
theorem m_boxA {t : TypeId} {l : List Value} {N : Value → World → XS → Prop} (hX : ∀ k, X k → k < w.heap.size)
    (n : ∀ b w' X', w.heap.size ≤ b → Since X w X' w' → RowIs w' X' b l t → N (ptr b 0) w' X') : eV P R X w m (Instr.box t (.agg l.toArray)) N :=
  eV_box' hX fun b w' X' hb hs hx hr => n b w' X' hb hs ⟨hx, by simpa [Value.cells] using hr⟩
theorem m_boxS {t : TypeId} {v : Value} {N : Value → World → XS → Prop} (ho : one v = true) (hX : ∀ k, X k → k < w.heap.size)
    (n : ∀ b w' X', w.heap.size ≤ b → Since X w X' w' → RowIs w' X' b [v] t → N (ptr b 0) w' X') : eV P R X w m (Instr.box t v) N :=
  eV_box' hX fun b w' X' hb hs hx hr => n b w' X' hb hs ⟨hx, by
    have : v.cells.toList = [v] := by cases v <;> first | rfl | cases ho
    rw [this] at hr; exact hr⟩
theorem Since.refl' {w : World} {X : XS} (h : ∀ k, X k → k < w.heap.size) : Since X w X w := ⟨Kp.refl _ _, fun _ h => h, h⟩
theorem r_fdVn {S f fo sz : Nat} {l l' : List Value} {N : Value → Prop} (hf : fieldInfo P S f = some (fo, sz)) (hg : fieldAgg P S f = some true) (hlen : decide (fo + sz ≤ l.length) = true) (hl : (l.drop fo).take sz = l')
    (k : N (.agg l'.toArray)) : rdV P X w (fdV S f fo sz (.agg l.toArray)) N := by
  subst hl
  unfold fieldInfo at hf
  unfold fieldAgg at hg
  cases hu : P.underlying S with
  | none => simp [hu] at hf
  | some d =>
    cases d <;> simp only [hu] at hf <;> try (cases hf; done)
    rename_i fs
    cases hx : fs[f]? with
    | none => simp [hx] at hf
    | some x =>
      simp only [hx, Option.bind_some, hu] at hf hg
      cases hi : P.info? x.type with
      | none => simp [hi] at hf
      | some i =>
        simp only [hi, Option.map_some, Option.some.injEq, Prod.mk.injEq] at hf
        cases hd : P.underlying x.type with
        | none => simp [hd] at hg
        | some d2 =>
          refine rdV_pure (v := .agg ((l.drop fo).take sz).toArray) (fun wa => ?_) k
          have hagg : (isAgg x.type).run P wa = .ok true wa := by
            cases d2 <;> simp_all [isAgg, run_underlying hd]
          have hle : fo + sz ≤ l.length := by simpa using hlen
          obtain ⟨rfl, rfl⟩ := hf
          simp [fdV, Instr.field, run_underlying hu, hx, asAgg, part, hagg, sizeOf, typeInfo, hi, hle]
theorem m_fun {f : FuncId} {la lc l : List Value} {N : Value → World → XS → Prop} (hl : la ++ lc = l) (h : eC P R X w m f l.toArray N) : eF P R X w m (.func (.func f) #[] lc.toArray) la.toArray N := by
  subst hl
  have e : ∀ wa, (callV (.func (.func f) #[] lc.toArray) la.toArray).run P wa = (callFunc f (la ++ lc).toArray).run P wa := by
    intro wa
    simp [callV, Deferred.ofValue, invoke]
  intro wa hk
  have := h wa hk
  rw [e wa]; exact this
theorem m_mkFun {fn : Fn} {a c : Array Value} {N : Value → Prop} (h : N (.func fn a c)) : rdV P X w (Instr.makeFunc fn a c) N := rdV_pure (fun wa => by simp [Instr.makeFunc]) h
theorem Ct.kp {f : FuncId} {args : Array Value} {F : XS} {Q : Value → World → World → Prop} (h : Ct P f args w X F Q) {w' : World} (hk : Kp X w w') : Ct P f args w' X F Q := fun wa hk' => h wa (hk.trans hk')
theorem Ct.since {f : FuncId} {args : Array Value} {F X' : XS} {Q : Value → World → World → Prop} (h : Ct P f args w X F Q) {w' : World} (hs : Since X w X' w') : Ct P f args w' X' F Q := fun wa hk' => h wa (hs.kp.trans (hk'.less hs.sub))
theorem Ct.old {f : FuncId} {args : Array Value} {F : XS} {Q : Value → World → World → Prop} (h : Ct P f args w X F Q) (hX : ∀ k, X k → k < w.heap.size) : Ct P f args w (Eng.old w) F Q :=
  fun wa hk' => h wa (hk'.less fun k hk => hX k hk)
def idxOf (p : α → Bool) : List α → Int
  | [] => -1
  | x :: l => if p x then 0 else let i := idxOf p l; if i < 0 then i else i + 1
theorem idxOf_any (p : α → Bool) : ∀ l : List α, decide (idxOf p l ≥ 0) = l.any p
  | [] => rfl
  | x :: l => by
    have ih := idxOf_any p l
    unfold idxOf
    by_cases hp : p x
    · simp [hp]
    · simp only [hp, Bool.false_eq_true, if_false, List.any_cons, Bool.false_or, ← ih]
      by_cases hi : idxOf p l < 0
      · simp [hi]
      · simp only [hi, if_false]; congr 1; simp; omega
theorem idxOf_at {p : α → Bool} {l : List α} {i : Nat} (h : ∀ k x, k < i → l[k]? = some x → p x = false) {x : α} (hx : l[i]? = some x) (hp : p x = true) : idxOf p l = i := by
  induction l generalizing i with
  | nil => simp at hx
  | cons y l ih =>
    cases i with
    | zero => simp only [List.getElem?_cons_zero, Option.some.injEq] at hx; subst hx; simp [idxOf, hp]
    | succ i =>
      have hy := h 0 y (by omega) rfl
      have := ih (i := i) (fun k z hk hz => h (k + 1) z (by omega) (by simpa using hz)) (by simpa using hx)
      simp only [idxOf, hy, Bool.false_eq_true, if_false, this]
      rw [if_neg (by omega)]; omega
theorem idxOf_none {p : α → Bool} {l : List α} (h : ∀ k x, k < l.length → l[k]? = some x → p x = false) : idxOf p l = -1 := by
  induction l with
  | nil => rfl
  | cons y l ih =>
    have hy := h 0 y (by simp) rfl
    have := ih fun k z hk hz => h (k + 1) z (by simpa using hk) (by simpa using hz)
    simp [idxOf, hy, this]
theorem Since.less {X0 Y0 : XS} {w0 : World} (h : Since X0 w0 X w) (hs : ∀ k, Y0 k → X0 k) : Since Y0 w0 X w := ⟨h.kp.less hs, fun k hk => h.sub k (hs k hk), h.has⟩
theorem Own.of_row {g n cap : Nat} {e k lo : Nat} {cs : List Value} {rows : List (List Value)} (h : RowIs w X g cs e) (hlo : lo ≤ g) (hr : ∀ r ∈ rows, r.length = k) (hn : rows.length = n) (hc : n ≤ cap) (hm : cap ≤ maxLen)
    (hl : cs.length = cap * k) (ht : cs.take (n * k) = rows.flatten) : Own w X lo e k (.slice (some ⟨g, 0, none⟩) n cap) rows :=
  ⟨hr, ⟨by rw [flat_len hr], .inr ⟨g, cap, cs.toArray, by rw [hn], hlo, h.2, by rw [hn]; exact hc, hm, by simpa using hl, by rw [hn]; simpa using ht⟩⟩, fun g' hg => by simp only [Value.ownBlock, Option.some.injEq] at hg; subst hg; exact h.1⟩
theorem Own.row {e k lo : Nat} {v : Value} {rows : List (List Value)} (h : Own w X lo e k v rows) : (v = .slice none 0 0 ∧ rows = []) ∨
    ∃ g cap cs, v = .slice (some ⟨g, 0, none⟩) rows.length cap ∧ lo ≤ g ∧ RowIs w X g cs e ∧ rows.length ≤ cap ∧ cap ≤ maxLen ∧ cs.length = cap * k ∧ cs.take (rows.length * k) = rows.flatten := by
  obtain ⟨h1, h2, h3⟩ := h
  rcases h2.2 with ⟨rfl, hn⟩ | ⟨g, cap, cur, rfl, hb, hg, hnc, hcm, hcs, ht⟩
  · exact .inl ⟨rfl, List.eq_nil_of_length_eq_zero hn⟩
  · exact .inr ⟨g, cap, cur.toList, rfl, hb, ⟨h3 g rfl, by simpa using hg⟩, hnc, hcm, by simpa using hcs, ht⟩
theorem idxOf_some {α : Type} {p : α → Bool} : ∀ {l : List α}, ¬ idxOf p l = -1 → ∃ (i : Nat) (x : α), idxOf p l = i ∧ l[i]? = some x ∧ p x = true ∧ ∀ y ∈ l.take i, p y = false
  | [], h => absurd rfl h
  | z :: l, h => by
    by_cases hp : p z = true
    · exact ⟨0, z, by simp [idxOf, hp], rfl, hp, by simp⟩
    · have hpz : p z = false := by simpa using hp
      have h' : ¬ idxOf p l = -1 := by
        intro e; apply h; simp [idxOf, hpz, e]
      obtain ⟨i, x, h1, h2, h3, h4⟩ := idxOf_some h'
      refine ⟨i + 1, x, ?_, by simpa using h2, h3, ?_⟩
      · simp only [idxOf, hpz, Bool.false_eq_true, if_false, h1]; rw [if_neg (by omega)]; omega
      · intro y hy
        simp only [List.take_succ_cons, List.mem_cons] at hy
        rcases hy with rfl | hy
        · exact hpz
        · exact h4 y hy
theorem setL_one {l : List Value} {i : Nat} {v : Value} (h : i < l.length) : setL l i [v] = l.set i v := by
  unfold setL
  apply List.ext_getElem?
  intro j
  rw [List.getElem?_set]
  by_cases h1 : j < i
  · rw [List.append_assoc, List.getElem?_append_left (by rw [List.length_take]; omega), List.getElem?_take_of_lt h1, if_neg (by omega)]
  · by_cases h2 : j = i
    · subst h2
      rw [List.append_assoc, List.getElem?_append_right (by rw [List.length_take]; omega), List.length_take, Nat.min_eq_left (by omega), Nat.sub_self, if_pos rfl, if_pos h]; rfl
    · rw [List.getElem?_append_right (by simp; omega), List.getElem?_drop, if_neg (by omega)]
      congr 1; simp; omega
theorem m_ixO {t : TypeId} {k g n cap : Nat} {z : Int} {i : Nat} {N : Value → Prop} (hz : z = i) (hi : i < n) (ht : P.underlying t = some (.slice (P.elem t))) (hs : (P.info? (P.elem t)).map (·.size) = some k) (h : N (ptr g (i * k))) :
    rdV P X w (ixS t k (.slice (some ⟨g, 0, none⟩) n cap) (.int .i64 z)) N := by
  subst hz
  refine rdV_pure (v := ptr g (i * k)) (fun wa => ?_) h
  show (Instr.indexAt t _ _).run P wa = _
  rw [run_indexAt_slice (h := ht), if_pos (by omega)]
  cases hq : P.info? (P.elem t) with
  | none => simp [hq] at hs
  | some inf =>
    have : inf.size = k := by simpa [hq] using hs
    simp [sizeOf, typeInfo, hq, this, addr_add]
theorem m_st1 {t sz b o : Nat} {cs : List Value} {ty : TypeId} {v : Value} {N : Value → World → XS → Prop} (h : RowIs w X b cs ty) (ht : (P.info? t).map (·.size) = some sz)
    (hl : o + sz ≤ cs.length) (hv : v.cells.size = sz) (h1 : v.cells.toList.all one = true) (hX : ∀ k, X k → k < w.heap.size)
    (n : ∀ w' X', Chg (fun k => k = b) X w X' w' → RowIs w' X' b (setL cs o v.cells.toList) ty → N undef w' X') : eU P R X w true (st1 t sz (ptr b o) v) N :=
  eU_store h ht hl hv h1 hX fun w' X' hg hr => n w' X' (hg.chg.mono fun k _ hk => by simpa using hk) hr
theorem m_slHi {t : TypeId} {a : Option Addr} {n cap : Nat} {z : Int} {i : Nat} {N : Value → Prop} (hz : z = i) (hi : i ≤ cap) (ht : P.underlying t = some (.slice (P.elem t))) (hs : ((P.info? (P.elem t)).map (·.size)).isSome = true) (h : N (.slice a i cap)) :
    rdV P X w (Instr.sliceAt t (.slice a n cap) none (some (.int .i64 z)) none) N := by
  subst hz
  obtain ⟨k, hk⟩ := Option.isSome_iff_exists.1 hs
  refine rdV_pure (v := .slice a i cap) (fun wa => ?_) h
  rw [run_sliceAt_slice wa t _ _ _ _ ht, run_slice_h wa t a n cap ht .i64 i (by omega) (by omega)]
  cases hq : P.info? (P.elem t) with
  | none => simp [hq] at hk
  | some inf =>
    have : a.map (fun x => x.add 0) = a := by cases a <;> simp [Addr.add]
    simp [sizeOf, typeInfo, hq, sliced, this]
theorem m_slLo {t : TypeId} {k g n cap : Nat} {z : Int} {i : Nat} {N : Value → Prop} (hz : z = i) (hi : i ≤ n) (hc : n ≤ cap) (ht : P.underlying t = some (.slice (P.elem t))) (hs : (P.info? (P.elem t)).map (·.size) = some k)
    (h : N (.slice (if cap = i then some ⟨g, 0, none⟩ else some ⟨g, i * k, none⟩) (n - i) (cap - i))) :
    rdV P X w (Instr.sliceAt t (.slice (some ⟨g, 0, none⟩) n cap) (some (.int .i64 z)) none none) N := by
  subst hz
  refine rdV_pure (fun wa => ?_) h
  rw [run_sliceAt_slice wa t _ _ _ _ ht, run_slice_l wa t _ n cap ht .i64 i (by omega) (by omega)]
  cases hq : P.info? (P.elem t) with
  | none => simp [hq] at hs
  | some inf =>
    have : inf.size = k := by simpa [hq] using hs
    simp [sizeOf, typeInfo, hq, sliced, this, addr_add]
theorem m_clear {t e ty g o n cap : Nat} {cs : List Value} {tb : TypeId} {z : Value} {N : Value → World → XS → Prop} (h : RowIs w X g cs tb) (ht : P.underlying t = some (.slice e)) (hz : (P.info? e).bind (·.zero) = some z)
    (ho : one z = true) (hl : o + n ≤ cs.length) (hX : ∀ k, X k → k < w.heap.size) (a : Option Addr) (ha : a = some ⟨g, o, none⟩ ∨ n = 0)
    (k : ∀ w' X', Chg (fun k => k = g) X w X' w' → RowIs w' X' g (setL cs o (List.replicate n z)) tb → N (.tuple #[]) w' X') :
    eV P R X w true (Builtin.clear_ #[t] ty #[.slice a n cap]) N := by
  intro wa hk
  have hb := (h.kp hk).2
  have hzv : ∀ w, (zeroValue e).run P w = .ok z w := by
    intro w
    cases hi : P.info? e with
    | none => simp [hi] at hz
    | some inf =>
      have hz' : inf.zero = some z := by simpa [hi] using hz
      simp [zeroValue, typeInfo, hi, hz']
  have hzc : z.cells = #[z] := one_cells ho
  have hrepl : (Builtin.zeroCells z.cells n).toList = List.replicate n z := by
    rw [hzc]
    simp [Builtin.zeroCells]
    apply List.ext_getElem
    · simp
    · intro i h1 h2
      simp [Nat.mod_one]
  have hr : (Builtin.clear_ #[t] ty #[.slice a n cap]).run P wa = .ok (.tuple #[]) (if n = 0 then wa else wa.setRow g (setL cs o (List.replicate n z)).toArray) := by
    by_cases h0 : n = 0
    · subst h0
      rw [if_pos rfl]
      cases a <;> simp [Builtin.clear_, run_underlying ht]
    · rw [if_neg h0]
      obtain rfl : a = some ⟨g, o, none⟩ := by rcases ha with h | h; exact h; exact absurd h h0
      have hst := run_storeCells_at P g o tb (List.replicate n z) 0 cs.toArray wa hb (by simpa using hl) (fun x hx => by
        rw [List.eq_of_mem_replicate hx, ← one_eq]; exact ho)
      simp only [Nat.add_zero] at hst
      obtain ⟨m, rfl⟩ : ∃ m, n = m + 1 := ⟨n - 1, by omega⟩
      simp only [Builtin.clear_]
      simp [run_underlying ht, hzv, hrepl, hst, setL]
  unfold effW
  simp only [vS, Sem.run_bind, hr, Result.andThen_ok, Sem.run_pure]
  by_cases h0 : n = 0
  · subst h0
    rw [if_pos rfl]
    have hx := Ext.refl wa
    have hs := Since.of_ext hX hk hx
    refine ⟨Step.of_ext hx, k _ _ (Chg.of_since hs _) ?_⟩
    have : setL cs o (List.replicate 0 z) = cs := by simp [setL]
    rw [this]; exact h.since hs
  · rw [if_neg h0]
    have hsz : (wa.setRow g (setL cs o (List.replicate n z)).toArray).heap.size = wa.heap.size := by simp
    refine ⟨⟨rfl, rfl, rfl, by rw [hsz]; exact Nat.le_refl _, fun j _ hx => setRow_other wa g j _ fun e => hx (e ▸ h.1)⟩, k _ _ ?_ ⟨.inl h.1, setRow_heap wa g _ _ tb _ hb⟩⟩
    refine ⟨hk.os, hk.tape, hk.output, by rw [hsz]; exact hk.size, fun j hx hne => ?_, fun j h => .inl h, fun j h => ?_⟩
    · rw [setRow_other wa g j _ (fun e => hne e), hk.block j hx]
    · rw [hsz]
      exact h.elim (fun h => Nat.lt_of_lt_of_le (hX j h) hk.size) (fun h => by have := h.2; rwa [hsz] at this)
end Go.Eng
namespace Go.Proofs.YtnphlhpdikmpiaaGreat
open Go.Eng
set_option maxRecDepth 100000
noncomputable def pl_racelaw18_TailPlays : Plan := ⟨152, [(15, (Tryz.prog.cellsOf 51)), (16, (Tryz.prog.cellsOf 56)), (18, (Tryz.prog.cellsOf 59))], [116, 122], [0, 1, 2, 3, 8, 9, 10, 11, 12, 13, 14, 17, 19, 20, 21, 23, 26, 49, 51, 56, 80, 119, 145], [43, 44, 45, 46, 47, 48, 67, 68, 69, 70, 71, 72, 74, 75, 76, 77, 78, 79, 129, 130, 131, 132, 134, 135, 136, 137, 138, 140, 141, 142, 143, 144, 147, 148, 149, 150], [13, 21]⟩
def vc_racelaw18_TailPlays (R : Ending → World → Prop) (w0 : World) (X0 : XS) (p0 p1 : Int) (p2 p3 : Value) : Prop :=
 (eC Tryz.prog R X0 w0 true 5 #[] fun x22_4 w_5 X_6 =>
 rdV Tryz.prog X_6 w_5 (Op.unary UnOp.not x22_4) fun x23_7 =>
 (condW x23_7
 (fin R X_6 w_5 (B false))
 ((eC Tryz.prog R X_6 w_5 true 6 #[p2] fun x25_11 w_12 X_13 =>
 rdV Tryz.prog X_13 w_12 (Op.unary UnOp.not x25_11) fun x26_14 =>
 (condW x26_14
 (eC Tryz.prog R X_13 w_12 true 5 #[] fun x27_16 w_17 X_18 =>
 (fin R X_18 w_17 x27_16))
 ((eC Tryz.prog R X_13 w_12 true 7 #[(I p0), (I p1)] fun x31_20 w_21 X_22 =>
 rdV Tryz.prog X_22 w_21 (Instr.extract x31_20 0) fun x32_23 =>
 rdV Tryz.prog X_22 w_21 (Instr.extract x31_20 1) fun x33_24 =>
 (eC Tryz.prog R X_22 w_21 true 8 #[(I p0), (I p1)] fun x37_26 w_27 X_28 =>
 rdV Tryz.prog X_28 w_27 (Instr.extract x37_26 0) fun x38_29 =>
 rdV Tryz.prog X_28 w_27 (Instr.extract x37_26 1) fun x39_30 =>
 (rdV Tryz.prog X_28 w_27 (binS .neq 27 (.tmp 40) (.tmp 41) x33_24 x39_30) fun x42_33 =>
 un (gSel x42_33 false x32_23) fun u_34 =>
 grdW Tryz.prog X_28 w_27 x42_33 false (vS (binS .eql 26 (.tmp 44) (.const (.pointer none)) u_34 (.pointer none))) fun x45_35 =>
 un (gSel x42_33 false x38_29) fun u_36 =>
 grdW Tryz.prog X_28 w_27 x42_33 false (vS (binS .eql 30 (.tmp 46) (.const (.pointer none)) u_36 (.pointer none))) fun x47_37 =>
 grdW Tryz.prog X_28 w_27 x42_33 false (vS (binS .neq 4 (.tmp 45) (.tmp 47) x45_35 x47_37)) fun x48_38 =>
 rdW Tryz.prog X_28 w_27 (pickN x42_33 (B true) x48_38) fun x49_39 =>
 (condW x49_39
 (fin R X_28 w_27 (B false))
 ((rdV Tryz.prog X_28 w_27 (binS .eql 30 (.tmp 50) (.const (.pointer none)) x38_29 (.pointer none)) fun x51_43 =>
 (condW x51_43
 (eC Tryz.prog R X_28 w_27 true 5 #[] fun x52_45 w_46 X_47 =>
 (fin R X_47 w_46 x52_45))
 (((lp2 X_28 w_27 (I 0) undef 13 21 fun J_51 n_52 v_56 _ w_54 X_55 =>
 rdV Tryz.prog X_55 w_54 (lnS 22 3 p2) fun x55_60 =>
 rdV Tryz.prog X_55 w_54 (binOp .lss 3 v_56 x55_60) fun x56_61 =>
 (condW x56_61
 ((rdW Tryz.prog X_55 w_54 (nilN x38_29) fun x60_65 =>
 rdV Tryz.prog X_55 w_54 (fld 37 1 1 1 x60_65) fun x61_66 =>
 rdV Tryz.prog X_55 w_54 (ld1 3 x61_66) fun x62_67 =>
 ((jn (fun (y14_87 : Value) =>
 rdV Tryz.prog X_55 w_54 (ixS 22 29 p2 v_56) fun x89_90 =>
 rdV Tryz.prog X_55 w_54 (ldA 51 29 x89_90) fun x90_91 =>
 eC Tryz.prog R X_55 w_54 true 9 #[x90_91] fun x91_92 w_93 X_94 =>
 un (Value.agg (Value.cells x91_92)) fun u_95 =>
 chk (List.length (Array.toList (Value.cells x91_92)) == 29) (chk (List.all (Array.toList (Value.cells x91_92)) one) ((chk (isA u_95) (un (subOf u_95 0 29) fun u_97 =>
 eC Tryz.prog R X_94 w_93 true 10 #[x32_23, y14_87, u_97] fun x96_98 w_99 X_100 =>
 rdV Tryz.prog X_100 w_99 (Instr.extract x96_98 0) fun x97_101 =>
 rdV Tryz.prog X_100 w_99 (Instr.extract x96_98 1) fun x98_102 =>
 un (Value.agg (Value.cells x97_101)) fun u_103 =>
 chk (List.length (Array.toList (Value.cells x97_101)) == 14) (chk (List.all (Array.toList (Value.cells x97_101)) one) ((rdV Tryz.prog X_100 w_99 (ixS 22 29 p2 v_56) fun x104_105 =>
 rdV Tryz.prog X_100 w_99 (ldA 51 29 x104_105) fun x105_106 =>
 eC Tryz.prog R X_100 w_99 true 11 #[x38_29, y14_87, x105_106] fun x106_107 w_108 X_109 =>
 rdV Tryz.prog X_109 w_108 (Instr.extract x106_107 0) fun x107_110 =>
 rdV Tryz.prog X_109 w_108 (Instr.extract x106_107 1) fun x108_111 =>
 un (Value.agg (Value.cells x107_110)) fun u_112 =>
 chk (List.length (Array.toList (Value.cells x107_110)) == 14) (chk (List.all (Array.toList (Value.cells x107_110)) one) ((chk (isA u_95) (rdV Tryz.prog X_109 w_108 (ixS 22 29 p2 v_56) fun x112_114 =>
 rdV Tryz.prog X_109 w_108 (ldA 51 29 x112_114) fun x113_115 =>
 eC Tryz.prog R X_109 w_108 true 12 #[u_97, x113_115] fun x114_116 w_117 X_118 =>
 ((lp1 X_118 w_117 (I 0) 21 fun J_122 n_123 v_127 w_125 X_126 =>
 chk (isA u_95) (un (cellOf u_95 14) fun u_130 =>
 rdV Tryz.prog X_126 w_125 (lnS 42 3 u_130) fun x118_131 =>
 rdV Tryz.prog X_126 w_125 (binOp .lss 3 v_127 x118_131) fun x119_132 =>
 (condW x119_132
 ((chk (isA u_95) (rdV Tryz.prog X_126 w_125 (bld 66 #[(.string { data := #[115, 112, 111, 105, 108, 116] }), (I 0), (.float .f64 0), (.string ⟨#[]⟩)] #[(0, (.string { data := #[115, 112, 111, 105, 108, 116] }))]) fun x125_135 =>
 rdV Tryz.prog X_126 w_125 (ixS 42 4 u_130 v_127) fun x126_136 =>
 eU Tryz.prog R X_126 w_125 true (st1 66 4 x126_136 x125_135) fun _ w_137 X_138 =>
 ((rdV Tryz.prog X_138 w_137 (binOp .add 3 v_127 (I 1)) fun x121_139 =>
 nx1 J_122 n_123 x121_139 w_137 X_138)))))
 (((rdV Tryz.prog X_126 w_125 (Op.unary UnOp.not x114_116) fun x128_141 =>
 un (gSel x128_141 false x98_102) fun u_142 =>
 un (gSel x128_141 false x108_111) fun u_143 =>
 grdW Tryz.prog X_126 w_125 x128_141 false (vS (binS .neq 27 (.tmp 130) (.tmp 131) u_142 u_143)) fun x132_144 =>
 rdW Tryz.prog X_126 w_125 (pickN x128_141 (B true) x132_144) fun x133_145 =>
 chk (isA u_103) (un (subOf u_103 0 14) fun u_146 =>
 un (gSel x133_145 false u_146) fun u_147 =>
 chk (isA u_112) (un (subOf u_112 0 14) fun u_148 =>
 un (gSel x133_145 false u_148) fun u_149 =>
 jn (fun (x137_150 : Value) (w_151 : World) (X_152 : XS) =>
 grdW Tryz.prog X_152 w_151 x133_145 false (vS (Op.unary UnOp.not x137_150)) fun x138_154 =>
 rdW Tryz.prog X_152 w_151 (pickN x133_145 (B true) x138_154) fun x139_155 =>
 un (gSel x139_155 false x32_23) fun u_156 =>
 un (gSel x139_155 false x38_29) fun u_157 =>
 jn (fun (x143_158 : Value) (w_159 : World) (X_160 : XS) =>
 grdW Tryz.prog X_160 w_159 x139_155 false (vS (Op.unary UnOp.not x143_158)) fun x144_162 =>
 rdW Tryz.prog X_160 w_159 (pickN x139_155 (B true) x144_162) fun x145_163 =>
 (condW x145_163
 (fin R X_160 w_159 (B false))
 (((rdV Tryz.prog X_160 w_159 (binOp .add 3 v_56 (I 1)) fun x58_165 =>
 nx2 J_51 n_52 x58_165 v_127 w_159 X_160))))) fun k_161 =>
 (gE x139_155 false (eC Tryz.prog R X_152 w_151 true 14 #[u_156, u_157] k_161) (k_161 undef w_151 X_152))) fun k_153 =>
 (gE x133_145 false (eC Tryz.prog R X_126 w_125 true 13 #[u_147, u_149] k_153) (k_153 undef w_125 X_126))))))))))))))))))))))) fun k_88 =>
 rdV Tryz.prog X_55 w_54 (lnS 23 3 p3) fun x65_70 =>
 rdV Tryz.prog X_55 w_54 (binOp .lss 3 v_56 x65_70) fun x66_71 =>
 un (gSel x66_71 true p3) fun u_72 =>
 un (gSel x66_71 true v_56) fun u_73 =>
 grdW Tryz.prog X_55 w_54 x66_71 true (vS (ixS 23 1 u_72 u_73)) fun x70_74 =>
 grdW Tryz.prog X_55 w_54 x66_71 true (vS (ld1 3 x70_74)) fun x71_75 =>
 grdW Tryz.prog X_55 w_54 x66_71 true (vS (binOp .gtr 3 x71_75 (I (-1000)))) fun x72_76 =>
 rdW Tryz.prog X_55 w_54 (pickN x66_71 x72_76 (B false)) fun x73_77 =>
 un (gSel x73_77 true p3) fun u_78 =>
 un (gSel x73_77 true v_56) fun u_79 =>
 grdW Tryz.prog X_55 w_54 x73_77 true (vS (ixS 23 1 u_78 u_79)) fun x77_80 =>
 grdW Tryz.prog X_55 w_54 x73_77 true (vS (ld1 3 x77_80)) fun x78_81 =>
 grdW Tryz.prog X_55 w_54 x73_77 true (vS (binOp .lss 3 x78_81 (I 1000))) fun x79_82 =>
 rdW Tryz.prog X_55 w_54 (pickN x73_77 x79_82 (B false)) fun x80_83 =>
 (condW x80_83
 (rdV Tryz.prog X_55 w_54 (ixS 23 1 p3 v_56) fun x84_84 =>
 rdV Tryz.prog X_55 w_54 (ld1 3 x84_84) fun x85_85 =>
 rdV Tryz.prog X_55 w_54 (binOp .add 3 x62_67 x85_85) fun x86_86 =>
 (k_88 x86_86))
 (k_88 x62_67))))))
 (((eC Tryz.prog R X_55 w_54 true 5 #[] fun x146_167 w_168 X_169 =>
 un (gSel x146_167 true x32_23) fun u_170 =>
 un (gSel x146_167 true x38_29) fun u_171 =>
 jn (fun (x150_172 : Value) (w_173 : World) (X_174 : XS) =>
 rdW Tryz.prog X_174 w_173 (pickN x146_167 x150_172 (B false)) fun x151_176 =>
 (fin R X_174 w_173 x151_176)) fun k_175 =>
 (gE x146_167 true (eC Tryz.prog R X_169 w_168 true 14 #[u_170, u_171] k_175) (k_175 undef w_168 X_169))))))))))))))))))))))
theorem ok_racelaw18_TailPlays {R : Ending → World → Prop} {w0 : World} {p0 p1 : Int} {p2 p3 : Value} (h : vc_racelaw18_TailPlays R w0 (old w0) p0 p1 p2 p3) : Calls Tryz.prog 3 #[(I p0), (I p1), p2, p3] w0 R :=
  calls_of_vc (pl := pl_racelaw18_TailPlays) Tryz.func3 (by kernel_rfl) (by kernel_rfl) h
noncomputable def pl_racelaw18_first : Plan := ⟨105, [(3, (Tryz.prog.cellsOf 39)), (5, (Tryz.prog.cellsOf 56)), (7, (Tryz.prog.cellsOf 56)), (9, (Tryz.prog.cellsOf 56)), (11, (Tryz.prog.cellsOf 34)), (12, (Tryz.prog.cellsOf 56))], [83, 88, 89, 94, 95, 96], [0, 1, 2, 4, 6, 8, 10, 13, 23], [20, 21, 22, 65, 66, 67, 69, 70, 71, 73, 74, 75, 77, 78, 79, 80, 82, 84, 85, 87, 90, 91, 93, 97, 98, 100, 101, 102, 103], []⟩
def vc_racelaw18_first (R : Ending → World → Prop) (w0 : World) (X0 : XS) : Prop :=
 (eC Tryz.prog R X0 w0 true 7 #[(I 1), (I 1)] fun x15_3 w_4 X_5 =>
 rdV Tryz.prog X_5 w_4 (Instr.extract x15_3 0) fun x16_6 =>
 rdV Tryz.prog X_5 w_4 (Instr.extract x15_3 1) fun x17_7 =>
 (rdV Tryz.prog X_5 w_4 (binS .eql 26 (.tmp 18) (.const (.pointer none)) x16_6 (.pointer none)) fun x19_10 =>
 un (gSel x19_10 false x17_7) fun u_11 =>
 grdW Tryz.prog X_5 w_4 x19_10 false (vS (binS .neq 27 (.tmp 21) (.const (I 0)) u_11 (I 0))) fun x22_12 =>
 rdW Tryz.prog X_5 w_4 (pickN x19_10 (B true) x22_12) fun x23_13 =>
 (condW x23_13
 (fin R X_5 w_4 (B false))
 ((rdV Tryz.prog X_5 w_4 (bld 39 #[(I 1), (I 1), (I 1)] #[(0, (I 1)), (1, (I 1)), (2, (I 1))]) fun x24_16 =>
 un (Value.agg (Value.cells x24_16)) fun u_17 =>
 chk (List.length (Array.toList (Value.cells x24_16)) == 3) (chk (List.all (Array.toList (Value.cells x24_16)) one) ((rdV Tryz.prog X_5 w_4 (bld 64 #[(I 1), (.float .f64 4607182418800017408), (.string ⟨#[]⟩)] #[(0, (I 1)), (1, (.float .f64 4607182418800017408))]) fun x25_19 =>
 un (cellOf x25_19 0) fun u_20 =>
 un (cellOf x25_19 1) fun u_21 =>
 un (cellOf x25_19 2) fun u_22 =>
 rdV Tryz.prog X_5 w_4 (bld 66 #[(.string { data := #[97] }), u_20, u_21, u_22] #[(0, (.string { data := #[97] })), (1, x25_19)]) fun x26_23 =>
 eV Tryz.prog R X_5 w_4 true (bsS 42 66 4 1 #[(0, x26_23)]) fun x27_24 w_25 X_26 =>
 (rdV Tryz.prog X_26 w_25 (bld 45 #[(I 1), (I 0), (.float .f64 0), (.float .f64 4607182418800017408)] #[(0, (I 1)), (3, (.float .f64 4607182418800017408))]) fun x30_28 =>
 un (cellOf x30_28 0) fun u_29 =>
 un (cellOf x30_28 1) fun u_30 =>
 un (cellOf x30_28 2) fun u_31 =>
 un (cellOf x30_28 3) fun u_32 =>
 rdV Tryz.prog X_26 w_25 (bld 49 #[u_29, u_30, u_31, u_32, (I 0), (I 0), (I 0), (I 0), (I 0), (I 0), (.slice none 0 0), (.slice none 0 0)] #[(0, x30_28)]) fun x31_33 =>
 un (cellOf x31_33 0) fun u_34 =>
 un (cellOf x31_33 1) fun u_35 =>
 un (cellOf x31_33 2) fun u_36 =>
 un (cellOf x31_33 3) fun u_37 =>
 un (cellOf x31_33 4) fun u_38 =>
 un (cellOf x31_33 5) fun u_39 =>
 un (cellOf x31_33 6) fun u_40 =>
 un (cellOf x31_33 7) fun u_41 =>
 un (cellOf x31_33 8) fun u_42 =>
 un (cellOf x31_33 9) fun u_43 =>
 un (cellOf x31_33 10) fun u_44 =>
 un (cellOf x31_33 11) fun u_45 =>
 rdV Tryz.prog X_26 w_25 (bld 51 #[(I 1), (I 0), (I 0), (I 0), (I 0), (I 0), (I 0), (I 0), (I 0), (I 0), (B false), (I 0), (.float .f64 0), (.slice none 0 0), (.slice none 0 0), (.slice none 0 0), (.slice none 0 0), u_34, u_35, u_36, u_37, u_38, u_39, u_40, u_41, u_42, u_43, u_44, u_45] #[(0, (I 1)), (11, x31_33)]) fun x32_46 =>
 eC Tryz.prog R X_26 w_25 true 10 #[x16_6, (I 1), x32_46] fun x33_47 w_48 X_49 =>
 rdV Tryz.prog X_49 w_48 (Instr.extract x33_47 0) fun x34_50 =>
 rdV Tryz.prog X_49 w_48 (Instr.extract x33_47 1) fun x35_51 =>
 un (Value.agg (Value.cells x34_50)) fun _ =>
 chk (List.length (Array.toList (Value.cells x34_50)) == 14) (chk (List.all (Array.toList (Value.cells x34_50)) one) ((chk (isA u_17) (rdV Tryz.prog X_49 w_48 (bld 34 #[(I 7), (I 0), (I 1)] #[(0, (I 7)), (2, (I 1))]) fun x39_54 =>
 eV Tryz.prog R X_49 w_48 true (bsS 23 3 1 1 #[(0, (I 1))]) fun x41_55 w_56 X_57 =>
 un (subOf u_17 0 3) fun u_58 =>
 un (cellOf u_58 0) fun u_59 =>
 un (cellOf u_58 1) fun u_60 =>
 un (cellOf u_58 2) fun u_61 =>
 un (cellOf x39_54 0) fun u_62 =>
 un (cellOf x39_54 1) fun u_63 =>
 un (cellOf x39_54 2) fun u_64 =>
 rdV Tryz.prog X_57 w_56 (bld 51 #[(I 3), u_59, u_60, u_61, u_62, u_63, u_64, (I 0), (I 0), (I 0), (B false), (I 0), (.float .f64 0), (.slice none 0 0), x27_24, x41_55, (.slice none 0 0), (I 0), (I 0), (.float .f64 0), (.float .f64 0), (I 0), (I 0), (I 0), (I 0), (I 0), (I 0), (.slice none 0 0), (.slice none 0 0)] #[(0, (I 3)), (1, u_58), (2, x39_54), (8, x27_24), (9, x41_55)]) fun x42_65 =>
 eC Tryz.prog R X_57 w_56 true 10 #[x16_6, (I 2), x42_65] fun x43_66 w_67 X_68 =>
 rdV Tryz.prog X_68 w_67 (Instr.extract x43_66 0) fun x44_69 =>
 rdV Tryz.prog X_68 w_67 (Instr.extract x43_66 1) fun x45_70 =>
 un (Value.agg (Value.cells x44_69)) fun _ =>
 chk (List.length (Array.toList (Value.cells x44_69)) == 14) (chk (List.all (Array.toList (Value.cells x44_69)) one) ((rdV Tryz.prog X_68 w_67 (bld 34 #[(I 9), (I 0), (I 1)] #[(0, (I 9)), (2, (I 1))]) fun x48_73 =>
 un (cellOf x48_73 0) fun u_74 =>
 un (cellOf x48_73 1) fun u_75 =>
 un (cellOf x48_73 2) fun u_76 =>
 rdV Tryz.prog X_68 w_67 (bld 51 #[(I 5), (I 0), (I 0), (I 0), u_74, u_75, u_76, (I 0), (I 0), (I 0), (B false), (I 0), (.float .f64 0), (.slice none 0 0), (.slice none 0 0), (.slice none 0 0), (.slice none 0 0), (I 0), (I 0), (.float .f64 0), (.float .f64 0), (I 0), (I 0), (I 0), (I 0), (I 0), (I 0), (.slice none 0 0), (.slice none 0 0)] #[(0, (I 5)), (2, x48_73)]) fun x49_77 =>
 eC Tryz.prog R X_68 w_67 true 10 #[x16_6, (I 3), x49_77] fun x50_78 w_79 X_80 =>
 rdV Tryz.prog X_80 w_79 (Instr.extract x50_78 0) fun x51_81 =>
 rdV Tryz.prog X_80 w_79 (Instr.extract x50_78 1) fun x52_82 =>
 un (Value.agg (Value.cells x51_81)) fun _ =>
 chk (List.length (Array.toList (Value.cells x51_81)) == 14) (chk (List.all (Array.toList (Value.cells x51_81)) one) ((eC Tryz.prog R X_80 w_79 true 18 #[x16_6] fun x54_85 w_86 X_87 =>
 un (Value.agg (Value.cells x54_85)) fun u_88 =>
 chk (List.length (Array.toList (Value.cells x54_85)) == 3) (chk (List.all (Array.toList (Value.cells x54_85)) one) ((chk (isA u_17) (rdV Tryz.prog X_87 w_86 (bld 34 #[(I 8), (I 0), (I 1)] #[(0, (I 8)), (2, (I 1))]) fun x58_90 =>
 un (cellOf x58_90 0) fun u_91 =>
 un (cellOf x58_90 1) fun u_92 =>
 un (cellOf x58_90 2) fun u_93 =>
 rdV Tryz.prog X_87 w_86 (bld 51 #[(I 4), u_59, u_60, u_61, u_91, u_92, u_93, (I 0), (I 0), (I 0), (B true), (I 0), (.float .f64 0), (.slice none 0 0), (.slice none 0 0), (.slice none 0 0), (.slice none 0 0), (I 0), (I 0), (.float .f64 0), (.float .f64 0), (I 0), (I 0), (I 0), (I 0), (I 0), (I 0), (.slice none 0 0), (.slice none 0 0)] #[(0, (I 4)), (1, u_58), (4, (B true)), (2, x58_90)]) fun x59_94 =>
 eC Tryz.prog R X_87 w_86 true 10 #[x16_6, (I 4), x59_94] fun x60_95 w_96 X_97 =>
 rdV Tryz.prog X_97 w_96 (Instr.extract x60_95 0) fun x61_98 =>
 rdV Tryz.prog X_97 w_96 (Instr.extract x60_95 1) fun x62_99 =>
 un (Value.agg (Value.cells x61_98)) fun u_100 =>
 chk (List.length (Array.toList (Value.cells x61_98)) == 14) (chk (List.all (Array.toList (Value.cells x61_98)) one) ((rdV Tryz.prog X_97 w_96 (binS .eql 27 (.tmp 63) (.const (I 0)) x35_51 (I 0)) fun x64_102 =>
 un (gSel x64_102 true x45_70) fun u_103 =>
 grdW Tryz.prog X_97 w_96 x64_102 true (vS (binS .eql 27 (.tmp 66) (.const (I 0)) u_103 (I 0))) fun x67_104 =>
 rdW Tryz.prog X_97 w_96 (pickN x64_102 x67_104 (B false)) fun x68_105 =>
 un (gSel x68_105 true x52_82) fun u_106 =>
 grdW Tryz.prog X_97 w_96 x68_105 true (vS (binS .eql 27 (.tmp 70) (.const (I 0)) u_106 (I 0))) fun x71_107 =>
 rdW Tryz.prog X_97 w_96 (pickN x68_105 x71_107 (B false)) fun x72_108 =>
 un (gSel x72_108 true x62_99) fun u_109 =>
 grdW Tryz.prog X_97 w_96 x72_108 true (vS (binS .eql 27 (.tmp 74) (.const (I 0)) u_109 (I 0))) fun x75_110 =>
 rdW Tryz.prog X_97 w_96 (pickN x72_108 x75_110 (B false)) fun x76_111 =>
 chk (isA u_88) (un (subOf u_88 0 3) fun u_112 =>
 un (gSel x76_111 true u_112) fun u_113 =>
 grdW Tryz.prog X_97 w_96 x76_111 true (vS (bld 34 #[(I 7), (I 0), (I 0)] #[(0, (I 7))])) fun x79_114 =>
 grdW Tryz.prog X_97 w_96 x76_111 true (vS (binS .eql 34 (.tmp 78) (.tmp 79) u_113 x79_114)) fun x80_115 =>
 rdW Tryz.prog X_97 w_96 (pickN x76_111 x80_115 (B false)) fun x81_116 =>
 chk (isA u_100) (un (cellOf u_100 0) fun u_117 =>
 un (gSel x81_116 true u_117) fun u_118 =>
 grdW Tryz.prog X_97 w_96 x81_116 true (vS (binS .eql 3 (.tmp 84) (.const (I 1)) u_118 (I 1))) fun x85_119 =>
 rdW Tryz.prog X_97 w_96 (pickN x81_116 x85_119 (B false)) fun x86_120 =>
 un (cellOf u_100 2) fun u_121 =>
 un (gSel x86_120 true u_121) fun u_122 =>
 grdW Tryz.prog X_97 w_96 x86_120 true (vS (binS .eql 3 (.tmp 90) (.const (I 2)) u_122 (I 2))) fun x91_123 =>
 rdW Tryz.prog X_97 w_96 (pickN x86_120 x91_123 (B false)) fun x92_124 =>
 un (cellOf u_100 6) fun u_125 =>
 un (gSel x92_124 true u_125) fun u_126 =>
 grdW Tryz.prog X_97 w_96 x92_124 true (vS (binS .eql 3 (.tmp 97) (.const (I 8)) u_126 (I 8))) fun x98_127 =>
 rdW Tryz.prog X_97 w_96 (pickN x92_124 x98_127 (B false)) fun x99_128 =>
 un (gSel x99_128 true x16_6) fun u_129 =>
 jn (fun (x102_130 : Value) (w_131 : World) (X_132 : XS) =>
 grdW Tryz.prog X_132 w_131 x99_128 true (vS (binS .eql 3 (.tmp 102) (.const (I 5)) x102_130 (I 5))) fun x103_134 =>
 rdW Tryz.prog X_132 w_131 (pickN x99_128 x103_134 (B false)) fun x104_135 =>
 (fin R X_132 w_131 x104_135)) fun k_133 =>
 (gE x99_128 true (eC Tryz.prog R X_97 w_96 true 15 #[u_129] k_133) (k_133 undef w_96 X_97))))))))))))))))))))))))))))))
theorem ok_racelaw18_first {R : Ending → World → Prop} {w0 : World} (h : vc_racelaw18_first R w0 (old w0)) : Calls Tryz.prog 5 #[] w0 R :=
  calls_of_vc (pl := pl_racelaw18_first) Tryz.func5 (by kernel_rfl) (by kernel_rfl) h
noncomputable def pl_racelaw18_Few : Plan := ⟨33, [], [], [0, 2, 3, 4, 16], [9, 10, 11, 13, 14, 15, 29, 30, 31], [3, 4]⟩
def vc_racelaw18_Few (R : Ending → World → Prop) (w0 : World) (X0 : XS) (p0 : Value) : Prop :=
 (((lp2 X0 w0 (I 0) (I 0) 4 3 fun J_6 n_7 v_11 v_12 w_9 X_10 =>
 rdV Tryz.prog X_10 w_9 (lnS 22 3 p0) fun x7_15 =>
 rdV Tryz.prog X_10 w_9 (binOp .lss 3 v_11 x7_15) fun x8_16 =>
 un (gSel x8_16 true v_11) fun u_17 =>
 grdW Tryz.prog X_10 w_9 x8_16 true (vS (binOp .lss 3 u_17 (I 400))) fun x11_18 =>
 rdW Tryz.prog X_10 w_9 (pickN x8_16 x11_18 (B false)) fun x12_19 =>
 un (gSel x12_19 true v_12) fun u_20 =>
 grdW Tryz.prog X_10 w_9 x12_19 true (vS (binOp .leq 3 u_20 (I 20000))) fun x15_21 =>
 rdW Tryz.prog X_10 w_9 (pickN x12_19 x15_21 (B false)) fun x16_22 =>
 (condW x16_22
 ((rdV Tryz.prog X_10 w_9 (ixS 22 29 p0 v_11) fun x22_25 =>
 rdV Tryz.prog X_10 w_9 (ldA 51 29 x22_25) fun x23_26 =>
 eC Tryz.prog R X_10 w_9 true 21 #[x23_26, (I 20000)] fun x24_27 w_28 X_29 =>
 rdV Tryz.prog X_29 w_28 (binOp .add 3 v_12 x24_27) fun x25_30 =>
 ((rdV Tryz.prog X_29 w_28 (binOp .add 3 v_11 (I 1)) fun x18_31 =>
 nx2 J_6 n_7 x18_31 x25_30 w_28 X_29))))
 (((rdV Tryz.prog X_10 w_9 (lnS 22 3 p0) fun x27_33 =>
 rdV Tryz.prog X_10 w_9 (binOp .leq 3 x27_33 (I 400)) fun x28_34 =>
 un (gSel x28_34 true v_12) fun u_35 =>
 grdW Tryz.prog X_10 w_9 x28_34 true (vS (binOp .leq 3 u_35 (I 20000))) fun x31_36 =>
 rdW Tryz.prog X_10 w_9 (pickN x28_34 x31_36 (B false)) fun x32_37 =>
 (fin R X_10 w_9 x32_37))))))))
theorem ok_racelaw18_Few {R : Ending → World → Prop} {w0 : World} {p0 : Value} (h : vc_racelaw18_Few R w0 (old w0) p0) : Calls Tryz.prog 6 #[p0] w0 R :=
  calls_of_vc (pl := pl_racelaw18_Few) Tryz.func6 (by kernel_rfl) (by kernel_rfl) h
noncomputable def pl_tail_New : Plan := ⟨25, [], [], [0, 1, 4, 5, 19], [8, 9, 10, 12, 13, 14, 16, 17, 18], []⟩
def vc_tail_New (R : Ending → World → Prop) (w0 : World) (X0 : XS) (p0 p1 : Int) : Prop :=
 (rdV Tryz.prog X0 w0 (binOp .lss 3 (I p0) (I 1)) fun x7_4 =>
 un (gSel x7_4 false (I p0)) fun u_5 =>
 grdW Tryz.prog X0 w0 x7_4 false (vS (binOp .gtr 3 u_5 (I 12))) fun x10_6 =>
 rdW Tryz.prog X0 w0 (pickN x7_4 (B true) x10_6) fun x11_7 =>
 un (gSel x11_7 false (I p1)) fun u_8 =>
 grdW Tryz.prog X0 w0 x11_7 false (vS (binOp .lss 3 u_8 (I 1))) fun x14_9 =>
 rdW Tryz.prog X0 w0 (pickN x11_7 (B true) x14_9) fun x15_10 =>
 un (gSel x15_10 false (I p1)) fun u_11 =>
 grdW Tryz.prog X0 w0 x15_10 false (vS (binOp .gtr 3 u_11 (I 100000000))) fun x18_12 =>
 rdW Tryz.prog X0 w0 (pickN x15_10 (B true) x18_12) fun x19_13 =>
 (condW x19_13
 ((fin R X0 w0 (Value.tuple #[(.pointer none), (I 1)])))
 ((eV Tryz.prog R X0 w0 true (Instr.makeMap 76 none) fun x22_16 w_17 X_18 =>
 rdV Tryz.prog X_18 w_17 (bld 78 #[(I p0), (I p1), (I 0), (I 0), (I 0), x22_16] #[(0, (I p0)), (1, (I p1)), (3, x22_16)]) fun x23_19 =>
 eV Tryz.prog R X_18 w_17 true (Instr.box 78 x23_19) fun x24_20 w_21 X_22 =>
 (fin R X_22 w_21 (Value.tuple #[x24_20, (I 0)]))))))
theorem ok_tail_New {R : Ending → World → Prop} {w0 : World} {p0 p1 : Int} (h : vc_tail_New R w0 (old w0) p0 p1) : Calls Tryz.prog 7 #[(I p0), (I p1)] w0 R :=
  calls_of_vc (pl := pl_tail_New) Tryz.func7 (by kernel_rfl) (by kernel_rfl) h
noncomputable def pl_raceref18_New : Plan := ⟨24, [], [], [0, 1, 4, 5, 19], [8, 9, 10, 12, 13, 14, 16, 17, 18], []⟩
def vc_raceref18_New (R : Ending → World → Prop) (w0 : World) (X0 : XS) (p0 p1 : Int) : Prop :=
 (rdV Tryz.prog X0 w0 (binOp .lss 3 (I p0) (I 1)) fun x7_4 =>
 un (gSel x7_4 false (I p0)) fun u_5 =>
 grdW Tryz.prog X0 w0 x7_4 false (vS (binOp .gtr 3 u_5 (I 12))) fun x10_6 =>
 rdW Tryz.prog X0 w0 (pickN x7_4 (B true) x10_6) fun x11_7 =>
 un (gSel x11_7 false (I p1)) fun u_8 =>
 grdW Tryz.prog X0 w0 x11_7 false (vS (binOp .lss 3 u_8 (I 1))) fun x14_9 =>
 rdW Tryz.prog X0 w0 (pickN x11_7 (B true) x14_9) fun x15_10 =>
 un (gSel x15_10 false (I p1)) fun u_11 =>
 grdW Tryz.prog X0 w0 x15_10 false (vS (binOp .gtr 3 u_11 (I 100000000))) fun x18_12 =>
 rdW Tryz.prog X0 w0 (pickN x15_10 (B true) x18_12) fun x19_13 =>
 (condW x19_13
 ((fin R X0 w0 (Value.tuple #[(.pointer none), (I 1)])))
 ((rdV Tryz.prog X0 w0 (bld 37 #[(I p0), (I p1), (I 0), (I 0), (I 0), (.slice none 0 0)] #[(0, (I p0)), (1, (I p1))]) fun x22_16 =>
 eV Tryz.prog R X0 w0 true (Instr.box 37 x22_16) fun x23_17 w_18 X_19 =>
 (fin R X_19 w_18 (Value.tuple #[x23_17, (I 0)]))))))
theorem ok_raceref18_New {R : Ending → World → Prop} {w0 : World} {p0 p1 : Int} (h : vc_raceref18_New R w0 (old w0) p0 p1) : Calls Tryz.prog 8 #[(I p0), (I p1)] w0 R :=
  calls_of_vc (pl := pl_raceref18_New) Tryz.func8 (by kernel_rfl) (by kernel_rfl) h
noncomputable def pl_raceref_CopyRec : Plan := ⟨54, [(1, (Tryz.prog.cellsOf 51)), (2, (Tryz.prog.cellsOf 51)), (3, (Tryz.prog.cellsOf 51))], [5, 7, 9, 11, 13, 15, 17, 20, 23, 24, 27, 28, 31, 33, 39, 41, 48, 49, 52], [0, 4, 36], [40], [3, 4]⟩
def vc_raceref_CopyRec (R : Ending → World → Prop) (w0 : World) (X0 : XS) (p0_0 p0_1 p0_2 p0_3 p0_4 p0_5 p0_6 p0_7 p0_8 p0_9 : Int) (p0_10 : Bool) (p0_11 : Int) (p0_12 : Nat) (p0_13 p0_14 p0_15 p0_16 : Value) (p0_17 p0_18 : Int) (p0_19 p0_20 : Nat) (p0_21 p0_22 p0_23 p0_24 p0_25 p0_26 : Int) (p0_27 p0_28 : Value) : Prop :=
 (rdV Tryz.prog X0 w0 (bld 51 #[(I p0_0), (I p0_1), (I p0_2), (I p0_3), (I p0_4), (I p0_5), (I p0_6), (I p0_7), (I p0_8), (I p0_9), (B p0_10), (I p0_11), (.float .f64 p0_12), (.slice none 0 0), (.slice none 0 0), (.slice none 0 0), (.slice none 0 0), (I 0), (I 0), (.float .f64 0), (.float .f64 0), (I 0), (I 0), (I 0), (I 0), (I 0), (I 0), (.slice none 0 0), (.slice none 0 0)] #[(0, (I p0_0)), (1, (.agg #[(I p0_1), (I p0_2), (I p0_3)])), (2, (.agg #[(I p0_4), (I p0_5), (I p0_6)])), (3, (.agg #[(I p0_7), (I p0_8), (I p0_9)])), (4, (B p0_10)), (5, (I p0_11)), (6, (.float .f64 p0_12))]) fun x19_3 =>
 un (Value.agg (Value.cells x19_3)) fun u_4 =>
 chk (List.length (Array.toList (Value.cells x19_3)) == 29) (chk (List.all (Array.toList (Value.cells x19_3)) one) ((eC Tryz.prog R X0 w0 true 22 #[p0_13] fun x22_6 w_7 X_8 =>
 chk (isA u_4) (un (Value.agg (List.toArray (setL (Array.toList (Value.cells u_4)) 13 [x22_6]))) fun u_9 =>
 chk (one x22_6) ((eC Tryz.prog R X_8 w_7 true 23 #[p0_14] fun x26_11 w_12 X_13 =>
 chk (isA u_9) (un (Value.agg (List.toArray (setL (Array.toList (Value.cells u_9)) 14 [x26_11]))) fun u_14 =>
 chk (one x26_11) ((eC Tryz.prog R X_13 w_12 true 24 #[p0_15] fun x30_16 w_17 X_18 =>
 chk (isA u_14) (un (Value.agg (List.toArray (setL (Array.toList (Value.cells u_14)) 15 [x30_16]))) fun u_19 =>
 chk (one x30_16) (((lp2 X_18 w_17 (I 0) u_19 4 3 fun J_23 n_24 v_28 v_29 w_26 X_27 =>
 rdV Tryz.prog X_27 w_26 (lnS 43 3 p0_16) fun x35_32 =>
 rdV Tryz.prog X_27 w_26 (binOp .lss 3 v_28 x35_32) fun x36_33 =>
 (condW x36_33
 ((chk (isA v_29) (un (cellOf v_29 16) fun u_36 =>
 rdV Tryz.prog X_27 w_26 (ixS 43 4 p0_16 v_28) fun x44_37 =>
 rdV Tryz.prog X_27 w_26 (ldA 82 4 x44_37) fun x45_38 =>
 eV Tryz.prog R X_27 w_26 false (bsS 43 82 4 1 #[(0, x45_38)]) fun x46_39 w_40 X_41 =>
 eV Tryz.prog R X_41 w_40 true (apS 43 82 4 48 43 u_36 x46_39) fun x47_42 w_43 X_44 =>
 un (Value.agg (List.toArray (setL (Array.toList (Value.cells v_29)) 16 [x47_42]))) fun u_45 =>
 chk (one x47_42) (((rdV Tryz.prog X_44 w_43 (binOp .add 3 v_28 (I 1)) fun x38_46 =>
 nx2 J_23 n_24 x38_46 u_45 w_43 X_44))))))
 (((eC Tryz.prog R X_27 w_26 true 25 #[(.agg #[(I p0_17), (I p0_18), (.float .f64 p0_19), (.float .f64 p0_20), (I p0_21), (I p0_22), (I p0_23), (I p0_24), (I p0_25), (I p0_26), p0_27, p0_28])] fun x51_48 w_49 X_50 =>
 chk (isA v_29) (un (Value.agg (List.toArray (setL (Array.toList (Value.cells v_29)) 17 (Array.toList (Value.cells x51_48))))) fun u_51 =>
 chk (List.length (Array.toList (Value.cells x51_48)) == 12) (chk (List.all (Array.toList (Value.cells x51_48)) one) ((chk (isA u_51) (un (subOf u_51 0 29) fun u_53 =>
 un (Value.agg (Value.cells u_53)) fun u_54 =>
 chk (List.length (Array.toList (Value.cells u_53)) == 29) (chk (List.all (Array.toList (Value.cells u_53)) one) (un (subOf u_54 0 29) fun u_55 =>
 chk (List.all [u_54] isA) (fin R X_50 w_49 u_55))))))))))))))))))))))))))
theorem ok_raceref_CopyRec {R : Ending → World → Prop} {w0 : World} {p0_0 p0_1 p0_2 p0_3 p0_4 p0_5 p0_6 p0_7 p0_8 p0_9 : Int} {p0_10 : Bool} {p0_11 : Int} {p0_12 : Nat} {p0_13 p0_14 p0_15 p0_16 : Value} {p0_17 p0_18 : Int} {p0_19 p0_20 : Nat} {p0_21 p0_22 p0_23 p0_24 p0_25 p0_26 : Int} {p0_27 p0_28 : Value} (h : vc_raceref_CopyRec R w0 (old w0) p0_0 p0_1 p0_2 p0_3 p0_4 p0_5 p0_6 p0_7 p0_8 p0_9 p0_10 p0_11 p0_12 p0_13 p0_14 p0_15 p0_16 p0_17 p0_18 p0_19 p0_20 p0_21 p0_22 p0_23 p0_24 p0_25 p0_26 p0_27 p0_28) : Calls Tryz.prog 9 #[(.agg #[(I p0_0), (I p0_1), (I p0_2), (I p0_3), (I p0_4), (I p0_5), (I p0_6), (I p0_7), (I p0_8), (I p0_9), (B p0_10), (I p0_11), (.float .f64 p0_12), p0_13, p0_14, p0_15, p0_16, (I p0_17), (I p0_18), (.float .f64 p0_19), (.float .f64 p0_20), (I p0_21), (I p0_22), (I p0_23), (I p0_24), (I p0_25), (I p0_26), p0_27, p0_28])] w0 R :=
  calls_of_vc (pl := pl_raceref_CopyRec) Tryz.func9 (by kernel_rfl) (by kernel_rfl) h
noncomputable def pl_tail_Tail_Feed : Plan := ⟨145, [(5, (Tryz.prog.cellsOf 51)), (6, (Tryz.prog.cellsOf 56)), (10, (Tryz.prog.cellsOf 87)), (11, (Tryz.prog.cellsOf 90))], [28, 37, 38, 43, 44, 55, 68, 70, 72, 74, 76, 89, 98, 102, 106, 107, 116, 118, 120, 122, 123, 134], [0, 1, 2, 7, 8, 12, 18, 29, 30, 45, 46, 47, 48, 62, 82, 111, 127, 139], [101, 103, 105, 108, 109, 110], [47]⟩
def vc_tail_Tail_Feed (R : Ending → World → Prop) (w0 : World) (X0 : XS) (p0 : Value) (p1 p2_0 p2_1 p2_2 p2_3 p2_4 p2_5 p2_6 p2_7 p2_8 p2_9 : Int) (p2_10 : Bool) (p2_11 : Int) (p2_12 : Nat) (p2_13 p2_14 p2_15 p2_16 : Value) (p2_17 p2_18 : Int) (p2_19 p2_20 : Nat) (p2_21 p2_22 p2_23 p2_24 p2_25 p2_26 : Int) (p2_27 p2_28 : Value) : Prop :=
 (eC Tryz.prog R X0 w0 true 26 #[p0, (I p1), (.agg #[(I p2_0), (I p2_1), (I p2_2), (I p2_3), (I p2_4), (I p2_5), (I p2_6), (I p2_7), (I p2_8), (I p2_9), (B p2_10), (I p2_11), (.float .f64 p2_12), p2_13, p2_14, p2_15, p2_16, (I p2_17), (I p2_18), (.float .f64 p2_19), (.float .f64 p2_20), (I p2_21), (I p2_22), (I p2_23), (I p2_24), (I p2_25), (I p2_26), p2_27, p2_28])] fun x16_4 w_5 X_6 =>
 (rdV Tryz.prog X_6 w_5 (binS .neq 27 (.tmp 17) (.const (I 0)) x16_4 (I 0)) fun x18_8 =>
 (condW x18_8
 (rdV Tryz.prog X_6 w_5 (bld 56 #[(I 0), (I 0), (I 0), (I 0), (I 0), (I 0), (I 0), (I 0), (I 0), (.slice none 0 0), (I 0), (I 0), (I 0), (I 0)] #[]) fun x19_10 =>
 un (Value.agg (Value.cells x19_10)) fun u_11 =>
 chk (List.length (Array.toList (Value.cells x19_10)) == 14) (chk (List.all (Array.toList (Value.cells x19_10)) one) ((un (subOf u_11 0 14) fun u_12 =>
 chk (List.all [u_11] isA) (fin R X_6 w_5 (Value.tuple #[u_12, x16_4]))))))
 ((rdW Tryz.prog X_6 w_5 (nilN p0) fun x22_14 =>
 rdV Tryz.prog X_6 w_5 (fld 78 1 1 1 x22_14) fun x23_15 =>
 rdV Tryz.prog X_6 w_5 (ld1 3 x23_15) fun x24_16 =>
 rdV Tryz.prog X_6 w_5 (binOp .add 3 x24_16 (I 1)) fun x25_17 =>
 rdW Tryz.prog X_6 w_5 (nilN p0) fun x26_18 =>
 rdV Tryz.prog X_6 w_5 (fld 78 1 1 1 x26_18) fun x27_19 =>
 eU Tryz.prog R X_6 w_5 true (st1 3 1 x27_19 x25_17) fun _ w_20 X_21 =>
 (((jn (fun (w_158 : World) (X_159 : XS) =>
 (rdV Tryz.prog X_159 w_158 (bld 56 #[(I 0), (I 0), (I 0), (I 0), (I 0), (I 0), (I 0), (I 0), (I 0), (.slice none 0 0), (I 0), (I 0), (I 0), (I 0)] #[]) fun x144_162 =>
 un (Value.agg (Value.cells x144_162)) fun u_163 =>
 chk (List.length (Array.toList (Value.cells x144_162)) == 14) (chk (List.all (Array.toList (Value.cells x144_162)) one) ((un (subOf u_163 0 14) fun u_164 =>
 chk (List.all [u_163] isA) (fin R X_159 w_158 (Value.tuple #[u_164, (I 0)]))))))) fun k_160 =>
 rdV Tryz.prog X_21 w_20 (binS .eql 3 (.tmp 29) (.const (I 1)) (I p2_0) (I 1)) fun x31_26 =>
 (condW x31_26
 (rdW Tryz.prog X_21 w_20 (nilN p0) fun x34_28 =>
 rdV Tryz.prog X_21 w_20 (fld 78 2 2 3 x34_28) fun x35_29 =>
 rdV Tryz.prog X_21 w_20 (ldA 34 3 x35_29) fun x36_30 =>
 eC Tryz.prog R X_21 w_20 false 27 #[x36_30, (.agg #[(I p2_24), (I p2_25), (I p2_26)])] fun x40_31 w_32 X_33 =>
 rdW Tryz.prog X_33 w_32 (nilN p0) fun x41_34 =>
 rdV Tryz.prog X_33 w_32 (fld 78 2 2 3 x41_34) fun x42_35 =>
 eU Tryz.prog R X_33 w_32 true (st1 34 3 x42_35 x40_31) fun _ w_36 X_37 =>
 (rdV Tryz.prog X_37 w_36 (lnS 47 3 p2_28) fun x46_39 =>
 (lp1 X_37 w_36 (I 0) 47 fun J_41 n_42 v_46 w_44 X_45 =>
 rdV Tryz.prog X_45 w_44 (binOp .lss 3 v_46 x46_39) fun x48_48 =>
 (condW x48_48
 ((rdV Tryz.prog X_45 w_44 (ixS 47 8 p2_28 v_46) fun x49_53 =>
 rdV Tryz.prog X_45 w_44 (ldA 87 8 x49_53) fun x50_54 =>
 un (Value.agg (Value.cells x50_54)) fun u_55 =>
 chk (List.length (Array.toList (Value.cells x50_54)) == 8) (chk (List.all (Array.toList (Value.cells x50_54)) one) ((rdW Tryz.prog X_45 w_44 (nilN p0) fun x52_56 =>
 rdV Tryz.prog X_45 w_44 (fld 78 3 5 1 x52_56) fun x53_57 =>
 rdV Tryz.prog X_45 w_44 (ld1 76 x53_57) fun x54_58 =>
 chk (isA u_55) (un (subOf u_55 0 8) fun u_59 =>
 eC Tryz.prog R X_45 w_44 false 28 #[u_59] fun x58_60 w_61 X_62 =>
 un (cellOf x58_60 0) fun u_63 =>
 un (cellOf x58_60 1) fun u_64 =>
 un (cellOf x58_60 2) fun u_65 =>
 un (cellOf x58_60 3) fun u_66 =>
 un (cellOf x58_60 4) fun u_67 =>
 un (cellOf x58_60 5) fun u_68 =>
 un (cellOf x58_60 6) fun u_69 =>
 un (cellOf x58_60 7) fun u_70 =>
 rdV Tryz.prog X_62 w_61 (bld 90 #[u_63, u_64, u_65, u_66, u_67, u_68, u_69, u_70, (I p1)] #[(0, x58_60), (1, (I p1))]) fun x60_71 =>
 un (subOf u_55 0 3) fun u_72 =>
 eU Tryz.prog R X_62 w_61 true (Instr.mapUpdate 76 x54_58 u_72 x60_71) fun _ w_73 X_74 =>
 ((rdV Tryz.prog X_74 w_73 (binOp .add 3 v_46 (I 1)) fun x61_75 =>
 nx1 J_41 n_42 x61_75 w_73 X_74))))))))
 (k_160 w_44 X_45)))))
 (rdV Tryz.prog X_21 w_20 (binS .eql 3 (.tmp 29) (.const (I 3)) (I p2_0) (I 3)) fun x63_77 =>
 (condW x63_77
 (rdW Tryz.prog X_21 w_20 (nilN p0) fun x65_78 =>
 rdV Tryz.prog X_21 w_20 (fld 78 3 5 1 x65_78) fun x66_79 =>
 rdV Tryz.prog X_21 w_20 (ld1 76 x66_79) fun x67_80 =>
 rdV Tryz.prog X_21 w_20 (bld 87 #[(I p2_1), (I p2_2), (I p2_3), (I p2_4), (I p2_5), (I p2_6), p2_13, p2_14] #[(0, (.agg #[(I p2_1), (I p2_2), (I p2_3)])), (1, (.agg #[(I p2_4), (I p2_5), (I p2_6)])), (2, p2_13), (3, p2_14)]) fun x78_81 =>
 eC Tryz.prog R X_21 w_20 false 28 #[x78_81] fun x79_82 w_83 X_84 =>
 un (cellOf x79_82 0) fun u_85 =>
 un (cellOf x79_82 1) fun u_86 =>
 un (cellOf x79_82 2) fun u_87 =>
 un (cellOf x79_82 3) fun u_88 =>
 un (cellOf x79_82 4) fun u_89 =>
 un (cellOf x79_82 5) fun u_90 =>
 un (cellOf x79_82 6) fun u_91 =>
 un (cellOf x79_82 7) fun u_92 =>
 rdV Tryz.prog X_84 w_83 (bld 90 #[u_85, u_86, u_87, u_88, u_89, u_90, u_91, u_92, (I p1)] #[(0, x79_82), (1, (I p1))]) fun x81_93 =>
 eU Tryz.prog R X_84 w_83 true (Instr.mapUpdate 76 x67_80 (.agg #[(I p2_1), (I p2_2), (I p2_3)]) x81_93) fun _ w_94 X_95 =>
 (k_160 w_94 X_95))
 (rdV Tryz.prog X_21 w_20 (binS .eql 3 (.tmp 29) (.const (I 4)) (I p2_0) (I 4)) fun x83_97 =>
 (condW x83_97
 (rdW Tryz.prog X_21 w_20 (nilN p0) fun x86_99 =>
 rdV Tryz.prog X_21 w_20 (fld 78 3 5 1 x86_99) fun x87_100 =>
 rdV Tryz.prog X_21 w_20 (ld1 76 x87_100) fun x88_101 =>
 rdV Tryz.prog X_21 w_20 (Instr.lookup 76 x88_101 (.agg #[(I p2_1), (I p2_2), (I p2_3)]) true) fun x91_102 =>
 rdV Tryz.prog X_21 w_20 (Instr.extract x91_102 0) fun x92_103 =>
 rdV Tryz.prog X_21 w_20 (Instr.extract x91_102 1) fun x93_104 =>
 un (Value.agg (Value.cells x92_103)) fun u_105 =>
 chk (List.length (Array.toList (Value.cells x92_103)) == 9) (chk (List.all (Array.toList (Value.cells x92_103)) one) ((rdW Tryz.prog X_21 w_20 (nilN p0) fun x95_107 =>
 rdV Tryz.prog X_21 w_20 (fld 78 3 5 1 x95_107) fun x96_108 =>
 rdV Tryz.prog X_21 w_20 (ld1 76 x96_108) fun x97_109 =>
 eV Tryz.prog R X_21 w_20 true (Builtin.delete_ #[76, 39] 0 #[x97_109, (.agg #[(I p2_1), (I p2_2), (I p2_3)])]) fun _ w_110 X_111 =>
 (un (gSel x93_104 true (B p2_10)) fun u_113 =>
 rdW Tryz.prog X_111 w_110 (pickN x93_104 u_113 (B false)) fun x104_114 =>
 chk (isA u_105) (un (cellOf u_105 7) fun u_115 =>
 un (gSel x104_114 true u_115) fun u_116 =>
 grdW Tryz.prog X_111 w_110 x104_114 true (vS (lnS 42 3 u_116)) fun x109_117 =>
 grdW Tryz.prog X_111 w_110 x104_114 true (vS (binOp .gtr 3 x109_117 (I 0))) fun x110_118 =>
 rdW Tryz.prog X_111 w_110 (pickN x104_114 x110_118 (B false)) fun x111_119 =>
 (condW x111_119
 (rdW Tryz.prog X_111 w_110 (nilN p0) fun x113_121 =>
 rdV Tryz.prog X_111 w_110 (fld 78 0 0 1 x113_121) fun x114_122 =>
 rdV Tryz.prog X_111 w_110 (ld1 3 x114_122) fun x115_123 =>
 chk (isA u_105) (un (cellOf u_105 8) fun u_124 =>
 rdV Tryz.prog X_111 w_110 (bld 54 #[x115_123, u_124, (I p2_1), (I p2_2), (I p2_3), (I p2_4), (I p2_5), (I p2_6), u_115] #[(0, x115_123), (1, u_124), (2, (.agg #[(I p2_1), (I p2_2), (I p2_3)])), (3, (.agg #[(I p2_4), (I p2_5), (I p2_6)])), (4, u_115)]) fun x125_125 =>
 un (cellOf x125_125 0) fun u_126 =>
 un (cellOf x125_125 1) fun u_127 =>
 un (cellOf x125_125 2) fun u_128 =>
 un (cellOf x125_125 3) fun u_129 =>
 un (cellOf x125_125 4) fun u_130 =>
 un (cellOf x125_125 5) fun u_131 =>
 un (cellOf x125_125 6) fun u_132 =>
 un (cellOf x125_125 7) fun u_133 =>
 un (cellOf x125_125 8) fun u_134 =>
 rdV Tryz.prog X_111 w_110 (bld 56 #[(I 1), u_126, u_127, u_128, u_129, u_130, u_131, u_132, u_133, u_134, (I 0), (I 0), (I 0), (I 0)] #[(0, (I 1)), (1, x125_125)]) fun x126_135 =>
 un (Value.agg (Value.cells x126_135)) fun u_136 =>
 chk (List.length (Array.toList (Value.cells x126_135)) == 14) (chk (List.all (Array.toList (Value.cells x126_135)) one) ((un (subOf u_136 0 14) fun u_137 =>
 chk (List.all [u_136] isA) (fin R X_111 w_110 (Value.tuple #[u_137, (I 0)])))))))
 (k_160 w_110 X_111))))))))
 (rdV Tryz.prog X_21 w_20 (binS .eql 3 (.tmp 29) (.const (I 5)) (I p2_0) (I 5)) fun x128_139 =>
 (condW x128_139
 (rdW Tryz.prog X_21 w_20 (nilN p0) fun x131_140 =>
 rdV Tryz.prog X_21 w_20 (fld 78 2 2 3 x131_140) fun x132_141 =>
 rdV Tryz.prog X_21 w_20 (ldA 34 3 x132_141) fun x133_142 =>
 eC Tryz.prog R X_21 w_20 false 27 #[x133_142, (.agg #[(I p2_4), (I p2_5), (I p2_6)])] fun x136_143 w_144 X_145 =>
 rdW Tryz.prog X_145 w_144 (nilN p0) fun x137_146 =>
 rdV Tryz.prog X_145 w_144 (fld 78 2 2 3 x137_146) fun x138_147 =>
 eU Tryz.prog R X_145 w_144 true (st1 34 3 x138_147 x136_143) fun _ w_148 X_149 =>
 (k_160 w_148 X_149))
 (rdV Tryz.prog X_21 w_20 (binS .eql 3 (.tmp 29) (.const (I 6)) (I p2_0) (I 6)) fun x140_151 =>
 (condW x140_151
 (eC Tryz.prog R X_21 w_20 true 29 #[p0, (.agg #[(I p2_0), (I p2_1), (I p2_2), (I p2_3), (I p2_4), (I p2_5), (I p2_6), (I p2_7), (I p2_8), (I p2_9), (B p2_10), (I p2_11), (.float .f64 p2_12), p2_13, p2_14, p2_15, p2_16, (I p2_17), (I p2_18), (.float .f64 p2_19), (.float .f64 p2_20), (I p2_21), (I p2_22), (I p2_23), (I p2_24), (I p2_25), (I p2_26), p2_27, p2_28])] fun x143_153 w_154 X_155 =>
 un (Value.agg (Value.cells x143_153)) fun u_156 =>
 chk (List.length (Array.toList (Value.cells x143_153)) == 14) (chk (List.all (Array.toList (Value.cells x143_153)) one) ((un (subOf u_156 0 14) fun u_157 =>
 chk (List.all [u_156] isA) (fin R X_155 w_154 (Value.tuple #[u_157, (I 0)]))))))
 (k_160 w_20 X_21))))))))))))))))))
theorem ok_tail_Tail_Feed {R : Ending → World → Prop} {w0 : World} {p0 : Value} {p1 p2_0 p2_1 p2_2 p2_3 p2_4 p2_5 p2_6 p2_7 p2_8 p2_9 : Int} {p2_10 : Bool} {p2_11 : Int} {p2_12 : Nat} {p2_13 p2_14 p2_15 p2_16 : Value} {p2_17 p2_18 : Int} {p2_19 p2_20 : Nat} {p2_21 p2_22 p2_23 p2_24 p2_25 p2_26 : Int} {p2_27 p2_28 : Value} (h : vc_tail_Tail_Feed R w0 (old w0) p0 p1 p2_0 p2_1 p2_2 p2_3 p2_4 p2_5 p2_6 p2_7 p2_8 p2_9 p2_10 p2_11 p2_12 p2_13 p2_14 p2_15 p2_16 p2_17 p2_18 p2_19 p2_20 p2_21 p2_22 p2_23 p2_24 p2_25 p2_26 p2_27 p2_28) : Calls Tryz.prog 10 #[p0, (I p1), (.agg #[(I p2_0), (I p2_1), (I p2_2), (I p2_3), (I p2_4), (I p2_5), (I p2_6), (I p2_7), (I p2_8), (I p2_9), (B p2_10), (I p2_11), (.float .f64 p2_12), p2_13, p2_14, p2_15, p2_16, (I p2_17), (I p2_18), (.float .f64 p2_19), (.float .f64 p2_20), (I p2_21), (I p2_22), (I p2_23), (I p2_24), (I p2_25), (I p2_26), p2_27, p2_28])] w0 R :=
  calls_of_vc (pl := pl_tail_Tail_Feed) Tryz.func10 (by kernel_rfl) (by kernel_rfl) h
noncomputable def pl_raceref18_Tail_Feed : Plan := ⟨162, [(5, (Tryz.prog.cellsOf 51)), (6, (Tryz.prog.cellsOf 59))], [26, 35, 36, 42, 43, 50, 51, 61, 63, 65, 67, 84, 96, 125, 148, 156], [0, 1, 2, 7, 8, 9, 10, 16, 27, 28, 46, 58, 72, 77, 89, 107], [], [9, 10]⟩
def vc_raceref18_Tail_Feed (R : Ending → World → Prop) (w0 : World) (X0 : XS) (p0 : Value) (p1 p2_0 p2_1 p2_2 p2_3 p2_4 p2_5 p2_6 p2_7 p2_8 p2_9 : Int) (p2_10 : Bool) (p2_11 : Int) (p2_12 : Nat) (p2_13 p2_14 p2_15 p2_16 : Value) (p2_17 p2_18 : Int) (p2_19 p2_20 : Nat) (p2_21 p2_22 p2_23 p2_24 p2_25 p2_26 : Int) (p2_27 p2_28 : Value) : Prop :=
 (eC Tryz.prog R X0 w0 true 30 #[p0, (I p1), (.agg #[(I p2_0), (I p2_1), (I p2_2), (I p2_3), (I p2_4), (I p2_5), (I p2_6), (I p2_7), (I p2_8), (I p2_9), (B p2_10), (I p2_11), (.float .f64 p2_12), p2_13, p2_14, p2_15, p2_16, (I p2_17), (I p2_18), (.float .f64 p2_19), (.float .f64 p2_20), (I p2_21), (I p2_22), (I p2_23), (I p2_24), (I p2_25), (I p2_26), p2_27, p2_28])] fun x14_3 w_4 X_5 =>
 (rdV Tryz.prog X_5 w_4 (binS .neq 27 (.tmp 15) (.const (I 0)) x14_3 (I 0)) fun x16_8 =>
 (condW x16_8
 (rdV Tryz.prog X_5 w_4 (bld 59 #[(I 0), (I 0), (I 0), (I 0), (I 0), (I 0), (I 0), (I 0), (I 0), (.slice none 0 0), (I 0), (I 0), (I 0), (I 0)] #[]) fun x17_10 =>
 un (Value.agg (Value.cells x17_10)) fun u_11 =>
 chk (List.length (Array.toList (Value.cells x17_10)) == 14) (chk (List.all (Array.toList (Value.cells x17_10)) one) ((un (subOf u_11 0 14) fun u_12 =>
 chk (List.all [u_11] isA) (fin R X_5 w_4 (Value.tuple #[u_12, x14_3]))))))
 ((rdW Tryz.prog X_5 w_4 (nilN p0) fun x20_14 =>
 rdV Tryz.prog X_5 w_4 (fld 37 1 1 1 x20_14) fun x21_15 =>
 rdV Tryz.prog X_5 w_4 (ld1 3 x21_15) fun x22_16 =>
 rdV Tryz.prog X_5 w_4 (binOp .add 3 x22_16 (I 1)) fun x23_17 =>
 rdW Tryz.prog X_5 w_4 (nilN p0) fun x24_18 =>
 rdV Tryz.prog X_5 w_4 (fld 37 1 1 1 x24_18) fun x25_19 =>
 eU Tryz.prog R X_5 w_4 true (st1 3 1 x25_19 x23_17) fun _ w_20 X_21 =>
 (((jn (fun (w_167 : World) (X_168 : XS) =>
 (rdV Tryz.prog X_168 w_167 (bld 59 #[(I 0), (I 0), (I 0), (I 0), (I 0), (I 0), (I 0), (I 0), (I 0), (.slice none 0 0), (I 0), (I 0), (I 0), (I 0)] #[]) fun x161_171 =>
 un (Value.agg (Value.cells x161_171)) fun u_172 =>
 chk (List.length (Array.toList (Value.cells x161_171)) == 14) (chk (List.all (Array.toList (Value.cells x161_171)) one) ((un (subOf u_172 0 14) fun u_173 =>
 chk (List.all [u_172] isA) (fin R X_168 w_167 (Value.tuple #[u_173, (I 0)]))))))) fun k_169 =>
 rdV Tryz.prog X_21 w_20 (binS .eql 3 (.tmp 27) (.const (I 1)) (I p2_0) (I 1)) fun x29_26 =>
 (condW x29_26
 (rdW Tryz.prog X_21 w_20 (nilN p0) fun x32_28 =>
 rdV Tryz.prog X_21 w_20 (fld 37 2 2 3 x32_28) fun x33_29 =>
 rdV Tryz.prog X_21 w_20 (ldA 34 3 x33_29) fun x34_30 =>
 eC Tryz.prog R X_21 w_20 false 31 #[x34_30, (.agg #[(I p2_24), (I p2_25), (I p2_26)])] fun x38_31 w_32 X_33 =>
 rdW Tryz.prog X_33 w_32 (nilN p0) fun x39_34 =>
 rdV Tryz.prog X_33 w_32 (fld 37 2 2 3 x39_34) fun x40_35 =>
 eU Tryz.prog R X_33 w_32 true (st1 34 3 x40_35 x38_31) fun _ w_36 X_37 =>
 ((lp1 X_37 w_36 (I 0) 9 fun J_40 n_41 v_45 w_43 X_44 =>
 rdV Tryz.prog X_44 w_43 (lnS 47 3 p2_28) fun x45_48 =>
 rdV Tryz.prog X_44 w_43 (binOp .lss 3 v_45 x45_48) fun x46_49 =>
 (condW x46_49
 ((rdV Tryz.prog X_44 w_43 (ixS 47 8 p2_28 v_45) fun x54_52 =>
 rdV Tryz.prog X_44 w_43 (ldA 87 8 x54_52) fun x55_53 =>
 eC Tryz.prog R X_44 w_43 true 32 #[p0, x55_53, (I p1)] fun _ w_55 X_56 =>
 ((rdV Tryz.prog X_56 w_55 (binOp .add 3 v_45 (I 1)) fun x48_57 =>
 nx1 J_40 n_41 x48_57 w_55 X_56))))
 (k_169 w_43 X_44)))))
 (rdV Tryz.prog X_21 w_20 (binS .eql 3 (.tmp 27) (.const (I 3)) (I p2_0) (I 3)) fun x59_59 =>
 (condW x59_59
 (rdV Tryz.prog X_21 w_20 (bld 87 #[(I p2_1), (I p2_2), (I p2_3), (I p2_4), (I p2_5), (I p2_6), p2_13, p2_14] #[(0, (.agg #[(I p2_1), (I p2_2), (I p2_3)])), (1, (.agg #[(I p2_4), (I p2_5), (I p2_6)])), (2, p2_13), (3, p2_14)]) fun x69_60 =>
 eC Tryz.prog R X_21 w_20 true 32 #[p0, x69_60, (I p1)] fun _ w_62 X_63 =>
 (k_169 w_62 X_63))
 (rdV Tryz.prog X_21 w_20 (binS .eql 3 (.tmp 27) (.const (I 4)) (I p2_0) (I 4)) fun x73_65 =>
 (condW x73_65
 (eC Tryz.prog R X_21 w_20 true 33 #[p0, (.agg #[(I p2_0), (I p2_1), (I p2_2), (I p2_3), (I p2_4), (I p2_5), (I p2_6), (I p2_7), (I p2_8), (I p2_9), (B p2_10), (I p2_11), (.float .f64 p2_12), p2_13, p2_14, p2_15, p2_16, (I p2_17), (I p2_18), (.float .f64 p2_19), (.float .f64 p2_20), (I p2_21), (I p2_22), (I p2_23), (I p2_24), (I p2_25), (I p2_26), p2_27, p2_28])] fun x76_67 w_68 X_69 =>
 un (Value.agg (Value.cells x76_67)) fun u_70 =>
 chk (List.length (Array.toList (Value.cells x76_67)) == 14) (chk (List.all (Array.toList (Value.cells x76_67)) one) ((un (subOf u_70 0 14) fun u_71 =>
 chk (List.all [u_70] isA) (fin R X_69 w_68 (Value.tuple #[u_71, (I 0)]))))))
 (rdV Tryz.prog X_21 w_20 (binS .eql 3 (.tmp 27) (.const (I 5)) (I p2_0) (I 5)) fun x78_73 =>
 (condW x78_73
 (rdW Tryz.prog X_21 w_20 (nilN p0) fun x81_74 =>
 rdV Tryz.prog X_21 w_20 (fld 37 2 2 3 x81_74) fun x82_75 =>
 rdV Tryz.prog X_21 w_20 (ldA 34 3 x82_75) fun x83_76 =>
 eC Tryz.prog R X_21 w_20 false 31 #[x83_76, (.agg #[(I p2_4), (I p2_5), (I p2_6)])] fun x86_77 w_78 X_79 =>
 rdW Tryz.prog X_79 w_78 (nilN p0) fun x87_80 =>
 rdV Tryz.prog X_79 w_78 (fld 37 2 2 3 x87_80) fun x88_81 =>
 eU Tryz.prog R X_79 w_78 true (st1 34 3 x88_81 x86_77) fun _ w_82 X_83 =>
 (k_169 w_82 X_83))
 (rdV Tryz.prog X_21 w_20 (binS .eql 3 (.tmp 27) (.const (I 6)) (I p2_0) (I 6)) fun x90_85 =>
 (condW x90_85
 (rdW Tryz.prog X_21 w_20 (nilN p0) fun x93_87 =>
 rdV Tryz.prog X_21 w_20 (fld 37 2 2 3 x93_87) fun x94_88 =>
 rdV Tryz.prog X_21 w_20 (ldA 34 3 x94_88) fun x95_89 =>
 eC Tryz.prog R X_21 w_20 false 31 #[x95_89, (.agg #[(I p2_4), (I p2_5), (I p2_6)])] fun x98_90 w_91 X_92 =>
 rdW Tryz.prog X_92 w_91 (nilN p0) fun x99_93 =>
 rdV Tryz.prog X_92 w_91 (fld 37 2 2 3 x99_93) fun x100_94 =>
 eU Tryz.prog R X_92 w_91 true (st1 34 3 x100_94 x98_90) fun _ w_95 X_96 =>
 ((lp1 X_96 w_95 (I 0) 10 fun J_100 n_101 v_105 w_103 X_104 =>
 rdW Tryz.prog X_104 w_103 (nilN p0) fun x103_108 =>
 rdV Tryz.prog X_104 w_103 (fld 37 3 5 1 x103_108) fun x104_109 =>
 rdV Tryz.prog X_104 w_103 (ld1 35 x104_109) fun x105_110 =>
 rdV Tryz.prog X_104 w_103 (lnS 35 3 x105_110) fun x106_111 =>
 rdV Tryz.prog X_104 w_103 (binOp .lss 3 v_105 x106_111) fun x107_112 =>
 (condW x107_112
 ((rdW Tryz.prog X_104 w_103 (nilN p0) fun x112_116 =>
 rdV Tryz.prog X_104 w_103 (fld 37 3 5 1 x112_116) fun x113_117 =>
 rdV Tryz.prog X_104 w_103 (ld1 35 x113_117) fun x114_118 =>
 rdW Tryz.prog X_104 w_103 (nilN p0) fun x117_119 =>
 rdV Tryz.prog X_104 w_103 (fld 37 3 5 1 x117_119) fun x118_120 =>
 rdV Tryz.prog X_104 w_103 (ld1 35 x118_120) fun x119_121 =>
 rdV Tryz.prog X_104 w_103 (ixS 35 9 x119_121 v_105) fun x121_122 =>
 rdV Tryz.prog X_104 w_103 (fld 98 0 0 8 x121_122) fun x122_123 =>
 rdV Tryz.prog X_104 w_103 (fld 87 2 6 1 x122_123) fun x123_124 =>
 rdV Tryz.prog X_104 w_103 (ld1 41 x123_124) fun x124_125 =>
 eC Tryz.prog R X_104 w_103 false 34 #[x124_125, (.float .f64 p2_12)] fun x127_126 w_127 X_128 =>
 rdV Tryz.prog X_128 w_127 (Instr.extract x127_126 0) fun x128_129 =>
 rdV Tryz.prog X_128 w_127 (Instr.extract x127_126 1) fun _ =>
 rdV Tryz.prog X_128 w_127 (ixS 35 9 x114_118 v_105) fun x130_131 =>
 rdV Tryz.prog X_128 w_127 (fld 98 0 0 8 x130_131) fun x131_132 =>
 rdV Tryz.prog X_128 w_127 (fld 87 2 6 1 x131_132) fun x132_133 =>
 eU Tryz.prog R X_128 w_127 true (st1 41 1 x132_133 x128_129) fun _ w_134 X_135 =>
 (rdW Tryz.prog X_135 w_134 (nilN p0) fun x135_136 =>
 rdV Tryz.prog X_135 w_134 (fld 37 3 5 1 x135_136) fun x136_137 =>
 rdV Tryz.prog X_135 w_134 (ld1 35 x136_137) fun x137_138 =>
 rdW Tryz.prog X_135 w_134 (nilN p0) fun x140_139 =>
 rdV Tryz.prog X_135 w_134 (fld 37 3 5 1 x140_139) fun x141_140 =>
 rdV Tryz.prog X_135 w_134 (ld1 35 x141_140) fun x142_141 =>
 rdV Tryz.prog X_135 w_134 (ixS 35 9 x142_141 v_105) fun x144_142 =>
 rdV Tryz.prog X_135 w_134 (fld 98 0 0 8 x144_142) fun x145_143 =>
 rdV Tryz.prog X_135 w_134 (fld 87 3 7 1 x145_143) fun x146_144 =>
 rdV Tryz.prog X_135 w_134 (ld1 42 x146_144) fun x147_145 =>
 eC Tryz.prog R X_135 w_134 false 35 #[x147_145, (.float .f64 p2_12)] fun x150_146 w_147 X_148 =>
 rdV Tryz.prog X_148 w_147 (Instr.extract x150_146 0) fun x151_149 =>
 rdV Tryz.prog X_148 w_147 (Instr.extract x150_146 1) fun _ =>
 rdV Tryz.prog X_148 w_147 (ixS 35 9 x137_138 v_105) fun x153_151 =>
 rdV Tryz.prog X_148 w_147 (fld 98 0 0 8 x153_151) fun x154_152 =>
 rdV Tryz.prog X_148 w_147 (fld 87 3 7 1 x154_152) fun x155_153 =>
 eU Tryz.prog R X_148 w_147 true (st1 42 1 x155_153 x151_149) fun _ w_154 X_155 =>
 ((rdV Tryz.prog X_155 w_154 (binOp .add 3 v_105 (I 1)) fun x109_156 =>
 nx1 J_100 n_101 x109_156 w_154 X_155)))))
 (((eC Tryz.prog R X_104 w_103 false 36 #[p0] fun x159_158 w_159 X_160 =>
 un (cellOf x159_158 0) fun u_161 =>
 un (cellOf x159_158 1) fun u_162 =>
 un (cellOf x159_158 2) fun u_163 =>
 rdV Tryz.prog X_160 w_159 (bld 59 #[(I 2), (I 0), (I 0), (I 0), (I 0), (I 0), (I 0), (I 0), (I 0), (.slice none 0 0), (I p2_11), u_161, u_162, u_163] #[(0, (I 2)), (2, (I p2_11)), (3, x159_158)]) fun x160_164 =>
 un (Value.agg (Value.cells x160_164)) fun u_165 =>
 chk (List.length (Array.toList (Value.cells x160_164)) == 14) (chk (List.all (Array.toList (Value.cells x160_164)) one) ((un (subOf u_165 0 14) fun u_166 =>
 chk (List.all [u_165] isA) (fin R X_160 w_159 (Value.tuple #[u_166, (I 0)]))))))))))))
 (k_169 w_20 X_21))))))))))))))))))
theorem ok_raceref18_Tail_Feed {R : Ending → World → Prop} {w0 : World} {p0 : Value} {p1 p2_0 p2_1 p2_2 p2_3 p2_4 p2_5 p2_6 p2_7 p2_8 p2_9 : Int} {p2_10 : Bool} {p2_11 : Int} {p2_12 : Nat} {p2_13 p2_14 p2_15 p2_16 : Value} {p2_17 p2_18 : Int} {p2_19 p2_20 : Nat} {p2_21 p2_22 p2_23 p2_24 p2_25 p2_26 : Int} {p2_27 p2_28 : Value} (h : vc_raceref18_Tail_Feed R w0 (old w0) p0 p1 p2_0 p2_1 p2_2 p2_3 p2_4 p2_5 p2_6 p2_7 p2_8 p2_9 p2_10 p2_11 p2_12 p2_13 p2_14 p2_15 p2_16 p2_17 p2_18 p2_19 p2_20 p2_21 p2_22 p2_23 p2_24 p2_25 p2_26 p2_27 p2_28) : Calls Tryz.prog 11 #[p0, (I p1), (.agg #[(I p2_0), (I p2_1), (I p2_2), (I p2_3), (I p2_4), (I p2_5), (I p2_6), (I p2_7), (I p2_8), (I p2_9), (B p2_10), (I p2_11), (.float .f64 p2_12), p2_13, p2_14, p2_15, p2_16, (I p2_17), (I p2_18), (.float .f64 p2_19), (.float .f64 p2_20), (I p2_21), (I p2_22), (I p2_23), (I p2_24), (I p2_25), (I p2_26), p2_27, p2_28])] w0 R :=
  calls_of_vc (pl := pl_raceref18_Tail_Feed) Tryz.func11 (by kernel_rfl) (by kernel_rfl) h
noncomputable def pl_raceref_Rec : Plan := ⟨89, [(2, (Tryz.prog.cellsOf 51)), (3, (Tryz.prog.cellsOf 51))], [6, 8, 12, 14, 19, 21, 26, 28, 33, 35, 40, 42, 47, 49, 55, 57, 62, 64, 69, 71, 76, 78, 83, 85], [0, 1, 4, 5], [11, 13, 15, 16, 18, 20, 22, 23, 25, 27, 29, 30, 32, 34, 36, 37, 39, 41, 43, 44, 46, 48, 50, 51, 54, 56, 58, 59, 61, 63, 65, 66, 68, 70, 72, 73, 75, 77, 79, 80, 82, 84, 86, 87], []⟩
def vc_raceref_Rec (R : Ending → World → Prop) (w0 : World) (X0 : XS) (p0_0 p0_1 p0_2 p0_3 p0_4 p0_5 p0_6 p0_7 p0_8 p0_9 : Int) (p0_10 : Bool) (p0_11 : Int) (p0_12 : Nat) (p0_13 p0_14 p0_15 p0_16 : Value) (p0_17 p0_18 : Int) (p0_19 p0_20 : Nat) (p0_21 p0_22 p0_23 p0_24 p0_25 p0_26 : Int) (p0_27 p0_28 : Value) (p1_0 p1_1 p1_2 p1_3 p1_4 p1_5 p1_6 p1_7 p1_8 p1_9 : Int) (p1_10 : Bool) (p1_11 : Int) (p1_12 : Nat) (p1_13 p1_14 p1_15 p1_16 : Value) (p1_17 p1_18 : Int) (p1_19 p1_20 : Nat) (p1_21 p1_22 p1_23 p1_24 p1_25 p1_26 : Int) (p1_27 p1_28 : Value) : Prop :=
 (rdV Tryz.prog X0 w0 (binS .eql 3 (.tmp 7) (.tmp 9) (I p0_0) (I p1_0)) fun x10_3 =>
 un (gSel x10_3 true (.agg #[(I p0_1), (I p0_2), (I p0_3)])) fun u_4 =>
 un (gSel x10_3 true (.agg #[(I p1_1), (I p1_2), (I p1_3)])) fun u_5 =>
 grdW Tryz.prog X0 w0 x10_3 true (vS (binS .eql 39 (.tmp 13) (.tmp 15) u_4 u_5)) fun x16_6 =>
 rdW Tryz.prog X0 w0 (pickN x10_3 x16_6 (B false)) fun x17_7 =>
 un (gSel x17_7 true (.agg #[(I p0_4), (I p0_5), (I p0_6)])) fun u_8 =>
 un (gSel x17_7 true (.agg #[(I p1_4), (I p1_5), (I p1_6)])) fun u_9 =>
 grdW Tryz.prog X0 w0 x17_7 true (vS (binS .eql 34 (.tmp 20) (.tmp 22) u_8 u_9)) fun x23_10 =>
 rdW Tryz.prog X0 w0 (pickN x17_7 x23_10 (B false)) fun x24_11 =>
 un (gSel x24_11 true (.agg #[(I p0_7), (I p0_8), (I p0_9)])) fun u_12 =>
 un (gSel x24_11 true (.agg #[(I p1_7), (I p1_8), (I p1_9)])) fun u_13 =>
 grdW Tryz.prog X0 w0 x24_11 true (vS (binS .eql 34 (.tmp 27) (.tmp 29) u_12 u_13)) fun x30_14 =>
 rdW Tryz.prog X0 w0 (pickN x24_11 x30_14 (B false)) fun x31_15 =>
 un (gSel x31_15 true (B p0_10)) fun u_16 =>
 un (gSel x31_15 true (B p1_10)) fun u_17 =>
 grdW Tryz.prog X0 w0 x31_15 true (vS (binS .eql 4 (.tmp 34) (.tmp 36) u_16 u_17)) fun x37_18 =>
 rdW Tryz.prog X0 w0 (pickN x31_15 x37_18 (B false)) fun x38_19 =>
 un (gSel x38_19 true (I p0_11)) fun u_20 =>
 un (gSel x38_19 true (I p1_11)) fun u_21 =>
 grdW Tryz.prog X0 w0 x38_19 true (vS (binS .eql 3 (.tmp 41) (.tmp 43) u_20 u_21)) fun x44_22 =>
 rdW Tryz.prog X0 w0 (pickN x38_19 x44_22 (B false)) fun x45_23 =>
 un (gSel x45_23 true (.float .f64 p0_12)) fun u_24 =>
 un (gSel x45_23 true (.float .f64 p1_12)) fun u_25 =>
 jn (fun (x51_26 : Value) (w_27 : World) (X_28 : XS) =>
 rdW Tryz.prog X_28 w_27 (pickN x45_23 x51_26 (B false)) fun x52_30 =>
 (un (gSel x52_30 true p0_13) fun u_32 =>
 un (gSel x52_30 true p1_13) fun u_33 =>
 jn (fun (x59_34 : Value) (w_35 : World) (X_36 : XS) =>
 rdW Tryz.prog X_36 w_35 (pickN x52_30 x59_34 (B false)) fun x60_38 =>
 un (gSel x60_38 true p0_14) fun u_39 =>
 un (gSel x60_38 true p1_14) fun u_40 =>
 jn (fun (x66_41 : Value) (w_42 : World) (X_43 : XS) =>
 rdW Tryz.prog X_43 w_42 (pickN x60_38 x66_41 (B false)) fun x67_45 =>
 un (gSel x67_45 true p0_15) fun u_46 =>
 un (gSel x67_45 true p1_15) fun u_47 =>
 jn (fun (x73_48 : Value) (w_49 : World) (X_50 : XS) =>
 rdW Tryz.prog X_50 w_49 (pickN x67_45 x73_48 (B false)) fun x74_52 =>
 un (gSel x74_52 true p0_16) fun u_53 =>
 un (gSel x74_52 true p1_16) fun u_54 =>
 jn (fun (x80_55 : Value) (w_56 : World) (X_57 : XS) =>
 rdW Tryz.prog X_57 w_56 (pickN x74_52 x80_55 (B false)) fun x81_59 =>
 un (gSel x81_59 true (.agg #[(I p0_17), (I p0_18), (.float .f64 p0_19), (.float .f64 p0_20), (I p0_21), (I p0_22), (I p0_23), (I p0_24), (I p0_25), (I p0_26), p0_27, p0_28])) fun u_60 =>
 un (gSel x81_59 true (.agg #[(I p1_17), (I p1_18), (.float .f64 p1_19), (.float .f64 p1_20), (I p1_21), (I p1_22), (I p1_23), (I p1_24), (I p1_25), (I p1_26), p1_27, p1_28])) fun u_61 =>
 jn (fun (x87_62 : Value) (w_63 : World) (X_64 : XS) =>
 rdW Tryz.prog X_64 w_63 (pickN x81_59 x87_62 (B false)) fun x88_66 =>
 (fin R X_64 w_63 x88_66)) fun k_65 =>
 (gE x81_59 true (eC Tryz.prog R X_57 w_56 true 42 #[u_60, u_61] k_65) (k_65 undef w_56 X_57))) fun k_58 =>
 (gE x74_52 true (eC Tryz.prog R X_50 w_49 true 41 #[u_53, u_54] k_58) (k_58 undef w_49 X_50))) fun k_51 =>
 (gE x67_45 true (eC Tryz.prog R X_43 w_42 true 40 #[u_46, u_47] k_51) (k_51 undef w_42 X_43))) fun k_44 =>
 (gE x60_38 true (eC Tryz.prog R X_36 w_35 true 39 #[u_39, u_40] k_44) (k_44 undef w_35 X_36))) fun k_37 =>
 (gE x52_30 true (eC Tryz.prog R X_28 w_27 true 38 #[u_32, u_33] k_37) (k_37 undef w_27 X_28)))) fun k_29 =>
 (gE x45_23 true (eC Tryz.prog R X0 w0 true 37 #[u_24, u_25] k_29) (k_29 undef w0 X0)))
theorem ok_raceref_Rec {R : Ending → World → Prop} {w0 : World} {p0_0 p0_1 p0_2 p0_3 p0_4 p0_5 p0_6 p0_7 p0_8 p0_9 : Int} {p0_10 : Bool} {p0_11 : Int} {p0_12 : Nat} {p0_13 p0_14 p0_15 p0_16 : Value} {p0_17 p0_18 : Int} {p0_19 p0_20 : Nat} {p0_21 p0_22 p0_23 p0_24 p0_25 p0_26 : Int} {p0_27 p0_28 : Value} {p1_0 p1_1 p1_2 p1_3 p1_4 p1_5 p1_6 p1_7 p1_8 p1_9 : Int} {p1_10 : Bool} {p1_11 : Int} {p1_12 : Nat} {p1_13 p1_14 p1_15 p1_16 : Value} {p1_17 p1_18 : Int} {p1_19 p1_20 : Nat} {p1_21 p1_22 p1_23 p1_24 p1_25 p1_26 : Int} {p1_27 p1_28 : Value} (h : vc_raceref_Rec R w0 (old w0) p0_0 p0_1 p0_2 p0_3 p0_4 p0_5 p0_6 p0_7 p0_8 p0_9 p0_10 p0_11 p0_12 p0_13 p0_14 p0_15 p0_16 p0_17 p0_18 p0_19 p0_20 p0_21 p0_22 p0_23 p0_24 p0_25 p0_26 p0_27 p0_28 p1_0 p1_1 p1_2 p1_3 p1_4 p1_5 p1_6 p1_7 p1_8 p1_9 p1_10 p1_11 p1_12 p1_13 p1_14 p1_15 p1_16 p1_17 p1_18 p1_19 p1_20 p1_21 p1_22 p1_23 p1_24 p1_25 p1_26 p1_27 p1_28) : Calls Tryz.prog 12 #[(.agg #[(I p0_0), (I p0_1), (I p0_2), (I p0_3), (I p0_4), (I p0_5), (I p0_6), (I p0_7), (I p0_8), (I p0_9), (B p0_10), (I p0_11), (.float .f64 p0_12), p0_13, p0_14, p0_15, p0_16, (I p0_17), (I p0_18), (.float .f64 p0_19), (.float .f64 p0_20), (I p0_21), (I p0_22), (I p0_23), (I p0_24), (I p0_25), (I p0_26), p0_27, p0_28]), (.agg #[(I p1_0), (I p1_1), (I p1_2), (I p1_3), (I p1_4), (I p1_5), (I p1_6), (I p1_7), (I p1_8), (I p1_9), (B p1_10), (I p1_11), (.float .f64 p1_12), p1_13, p1_14, p1_15, p1_16, (I p1_17), (I p1_18), (.float .f64 p1_19), (.float .f64 p1_20), (I p1_21), (I p1_22), (I p1_23), (I p1_24), (I p1_25), (I p1_26), p1_27, p1_28])] w0 R :=
  calls_of_vc (pl := pl_raceref_Rec) Tryz.func12 (by kernel_rfl) (by kernel_rfl) h
noncomputable def pl_racelaw18_same : Plan := ⟨31, [(2, (Tryz.prog.cellsOf 56)), (3, (Tryz.prog.cellsOf 59))], [5, 7, 11, 13, 18, 20, 25, 27], [0, 1, 4], [10, 12, 14, 15, 17, 19, 21, 22, 24, 26, 28, 29], []⟩
def vc_racelaw18_same (R : Ending → World → Prop) (w0 : World) (X0 : XS) (p0_0 p0_1 p0_2 p0_3 p0_4 p0_5 p0_6 p0_7 p0_8 : Int) (p0_9 : Value) (p0_10 p0_11 p0_12 p0_13 p1_0 p1_1 p1_2 p1_3 p1_4 p1_5 p1_6 p1_7 p1_8 : Int) (p1_9 : Value) (p1_10 p1_11 p1_12 p1_13 : Int) : Prop :=
 (rdV Tryz.prog X0 w0 (binS .eql 3 (.tmp 6) (.tmp 8) (I p0_0) (I p1_0)) fun x9_3 =>
 un (gSel x9_3 true (.agg #[(I p0_1), (I p0_2), (I p0_3), (I p0_4), (I p0_5), (I p0_6), (I p0_7), (I p0_8), p0_9])) fun u_4 =>
 un (gSel x9_3 true (.agg #[(I p1_1), (I p1_2), (I p1_3), (I p1_4), (I p1_5), (I p1_6), (I p1_7), (I p1_8), p1_9])) fun u_5 =>
 jn (fun (x15_6 : Value) (w_7 : World) (X_8 : XS) =>
 rdW Tryz.prog X_8 w_7 (pickN x9_3 x15_6 (B false)) fun x16_10 =>
 un (gSel x16_10 true (I p0_10)) fun u_11 =>
 un (gSel x16_10 true (I p1_10)) fun u_12 =>
 grdW Tryz.prog X_8 w_7 x16_10 true (vS (binS .eql 3 (.tmp 19) (.tmp 21) u_11 u_12)) fun x22_13 =>
 rdW Tryz.prog X_8 w_7 (pickN x16_10 x22_13 (B false)) fun x23_14 =>
 un (gSel x23_14 true (.agg #[(I p0_11), (I p0_12), (I p0_13)])) fun u_15 =>
 un (gSel x23_14 true (.agg #[(I p1_11), (I p1_12), (I p1_13)])) fun u_16 =>
 grdW Tryz.prog X_8 w_7 x23_14 true (vS (binS .eql 34 (.tmp 26) (.tmp 28) u_15 u_16)) fun x29_17 =>
 rdW Tryz.prog X_8 w_7 (pickN x23_14 x29_17 (B false)) fun x30_18 =>
 (fin R X_8 w_7 x30_18)) fun k_9 =>
 (gE x9_3 true (eC Tryz.prog R X0 w0 true 43 #[u_4, u_5] k_9) (k_9 undef w0 X0)))
theorem ok_racelaw18_same {R : Ending → World → Prop} {w0 : World} {p0_0 p0_1 p0_2 p0_3 p0_4 p0_5 p0_6 p0_7 p0_8 : Int} {p0_9 : Value} {p0_10 p0_11 p0_12 p0_13 p1_0 p1_1 p1_2 p1_3 p1_4 p1_5 p1_6 p1_7 p1_8 : Int} {p1_9 : Value} {p1_10 p1_11 p1_12 p1_13 : Int} (h : vc_racelaw18_same R w0 (old w0) p0_0 p0_1 p0_2 p0_3 p0_4 p0_5 p0_6 p0_7 p0_8 p0_9 p0_10 p0_11 p0_12 p0_13 p1_0 p1_1 p1_2 p1_3 p1_4 p1_5 p1_6 p1_7 p1_8 p1_9 p1_10 p1_11 p1_12 p1_13) : Calls Tryz.prog 13 #[(.agg #[(I p0_0), (I p0_1), (I p0_2), (I p0_3), (I p0_4), (I p0_5), (I p0_6), (I p0_7), (I p0_8), p0_9, (I p0_10), (I p0_11), (I p0_12), (I p0_13)]), (.agg #[(I p1_0), (I p1_1), (I p1_2), (I p1_3), (I p1_4), (I p1_5), (I p1_6), (I p1_7), (I p1_8), p1_9, (I p1_10), (I p1_11), (I p1_12), (I p1_13)])] w0 R :=
  calls_of_vc (pl := pl_racelaw18_same) Tryz.func13 (by kernel_rfl) (by kernel_rfl) h
noncomputable def pl_racelaw18_stands : Plan := ⟨80, [], [], [0, 1, 4, 5, 6, 7, 46, 50, 60], [17, 18, 19, 20, 21, 22, 24, 25, 26, 27, 28, 29, 30, 31, 33, 34, 35, 36, 37, 38, 40, 41, 42, 43, 44, 45], [6, 7]⟩
def vc_racelaw18_stands (R : Ending → World → Prop) (w0 : World) (X0 : XS) (p0 p1 : Value) : Prop :=
 (eC Tryz.prog R X0 w0 true 16 #[p0] fun x9_3 w_4 X_5 =>
 (rdW Tryz.prog X_5 w_4 (nilN p1) fun x13_8 =>
 rdV Tryz.prog X_5 w_4 (fld 37 1 1 1 x13_8) fun x14_9 =>
 rdV Tryz.prog X_5 w_4 (ld1 3 x14_9) fun x15_10 =>
 eC Tryz.prog R X_5 w_4 false 15 #[p0] fun x11_11 w_12 X_13 =>
 rdV Tryz.prog X_13 w_12 (binS .neq 3 (.tmp 11) (.tmp 15) x11_11 x15_10) fun x16_14 =>
 un (gSel x16_14 false p0) fun u_15 =>
 un (gSel x16_14 false p1) fun u_16 =>
 jn (fun (x19_17 : Value) (w_18 : World) (X_19 : XS) =>
 jn (fun (x21_21 : Value) (w_22 : World) (X_23 : XS) =>
 grdW Tryz.prog X_23 w_22 x16_14 false (vS (binS .neq 3 (.tmp 19) (.tmp 21) x19_17 x21_21)) fun x22_25 =>
 rdW Tryz.prog X_23 w_22 (pickN x16_14 (B true) x22_25) fun x23_26 =>
 un (gSel x23_26 false p0) fun u_27 =>
 un (gSel x23_26 false p1) fun u_28 =>
 grdW Tryz.prog X_23 w_22 x23_26 false (nilN u_28) fun x28_29 =>
 grdW Tryz.prog X_23 w_22 x23_26 false (vS (fld 37 2 2 3 x28_29)) fun x29_30 =>
 grdW Tryz.prog X_23 w_22 x23_26 false (vS (ldA 34 3 x29_30)) fun x30_31 =>
 jn (fun (x26_32 : Value) (w_33 : World) (X_34 : XS) =>
 grdW Tryz.prog X_34 w_33 x23_26 false (vS (binS .neq 34 (.tmp 26) (.tmp 30) x26_32 x30_31)) fun x31_36 =>
 rdW Tryz.prog X_34 w_33 (pickN x23_26 (B true) x31_36) fun x32_37 =>
 un (gSel x32_37 false p0) fun u_38 =>
 un (gSel x32_37 false p1) fun u_39 =>
 jn (fun (x35_40 : Value) (w_41 : World) (X_42 : XS) =>
 jn (fun (x37_44 : Value) (w_45 : World) (X_46 : XS) =>
 grdW Tryz.prog X_46 w_45 x32_37 false (vS (binS .neq 34 (.tmp 35) (.tmp 37) x35_40 x37_44)) fun x38_48 =>
 rdW Tryz.prog X_46 w_45 (pickN x32_37 (B true) x38_48) fun x39_49 =>
 un (gSel x39_49 false x9_3) fun u_50 =>
 un (gSel x39_49 false p1) fun u_51 =>
 jn (fun (x43_52 : Value) (w_53 : World) (X_54 : XS) =>
 jn (fun (x44_56 : Value) (w_57 : World) (X_58 : XS) =>
 grdW Tryz.prog X_58 w_57 x39_49 false (vS (Op.unary UnOp.not x44_56)) fun x45_60 =>
 rdW Tryz.prog X_58 w_57 (pickN x39_49 (B true) x45_60) fun x46_61 =>
 (condW x46_61
 (fin R X_58 w_57 (B false))
 (((lp2 X_58 w_57 (I 0) undef 6 7 fun J_66 n_67 v_71 _ w_69 X_70 =>
 rdV Tryz.prog X_70 w_69 (lnS 47 3 x9_3) fun x49_75 =>
 rdV Tryz.prog X_70 w_69 (binOp .lss 3 v_71 x49_75) fun x50_76 =>
 (condW x50_76
 (((lp1 X_70 w_69 (I 0) 7 fun J_82 n_83 v_87 w_85 X_86 =>
 rdV Tryz.prog X_86 w_85 (ixS 47 8 x9_3 v_71) fun x56_90 =>
 rdV Tryz.prog X_86 w_85 (fld 87 3 7 1 x56_90) fun x57_91 =>
 rdV Tryz.prog X_86 w_85 (ld1 42 x57_91) fun x58_92 =>
 rdV Tryz.prog X_86 w_85 (lnS 42 3 x58_92) fun x59_93 =>
 rdV Tryz.prog X_86 w_85 (binOp .lss 3 v_87 x59_93) fun x60_94 =>
 (condW x60_94
 ((rdV Tryz.prog X_86 w_85 (ixS 47 8 x9_3 v_71) fun x65_97 =>
 rdV Tryz.prog X_86 w_85 (fld 87 3 7 1 x65_97) fun x66_98 =>
 rdV Tryz.prog X_86 w_85 (ld1 42 x66_98) fun x67_99 =>
 rdV Tryz.prog X_86 w_85 (bld 66 #[(.string { data := #[115, 112, 111, 105, 108, 116] }), (I 0), (.float .f64 0), (.string ⟨#[]⟩)] #[(0, (.string { data := #[115, 112, 111, 105, 108, 116] }))]) fun x69_100 =>
 rdV Tryz.prog X_86 w_85 (ixS 42 4 x67_99 v_87) fun x70_101 =>
 eU Tryz.prog R X_86 w_85 true (st1 66 4 x70_101 x69_100) fun _ w_102 X_103 =>
 ((rdV Tryz.prog X_103 w_102 (binOp .add 3 v_87 (I 1)) fun x62_104 =>
 nx1 J_82 n_83 x62_104 w_102 X_103))))
 (((rdV Tryz.prog X_86 w_85 (bld 87 #[(I 0), (I 0), (I 0), (I 0), (I 0), (I 0), (.slice none 0 0), (.slice none 0 0)] #[]) fun x73_105 =>
 rdV Tryz.prog X_86 w_85 (ixS 47 8 x9_3 v_71) fun x74_106 =>
 eU Tryz.prog R X_86 w_85 true (st1 87 8 x74_106 x73_105) fun _ w_107 X_108 =>
 ((rdV Tryz.prog X_108 w_107 (binOp .add 3 v_71 (I 1)) fun x52_109 =>
 nx2 J_66 n_67 x52_109 v_87 w_107 X_108)))))))))
 (eC Tryz.prog R X_70 w_69 true 16 #[p0] fun x76_111 w_112 X_113 =>
 eC Tryz.prog R X_113 w_112 true 45 #[p1] fun x78_114 w_115 X_116 =>
 eC Tryz.prog R X_116 w_115 true 20 #[x76_111, x78_114] fun x79_117 w_118 X_119 =>
 (fin R X_119 w_118 x79_117)))))))) fun k_59 =>
 (gE x39_49 false (eC Tryz.prog R X_54 w_53 true 20 #[u_50, x43_52] k_59) (k_59 undef w_53 X_54))) fun k_55 =>
 (gE x39_49 false (eC Tryz.prog R X_46 w_45 false 45 #[u_51] k_55) (k_55 undef w_45 X_46))) fun k_47 =>
 (gE x32_37 false (eC Tryz.prog R X_42 w_41 true 36 #[u_39] k_47) (k_47 undef w_41 X_42))) fun k_43 =>
 (gE x32_37 false (eC Tryz.prog R X_34 w_33 false 18 #[u_38] k_43) (k_43 undef w_33 X_34))) fun k_35 =>
 (gE x23_26 false (eC Tryz.prog R X_23 w_22 false 17 #[u_27] k_35) (k_35 undef w_22 X_23))) fun k_24 =>
 (gE x16_14 false (eC Tryz.prog R X_19 w_18 true 44 #[u_16] k_24) (k_24 undef w_18 X_19))) fun k_20 =>
 (gE x16_14 false (eC Tryz.prog R X_13 w_12 false 19 #[u_15] k_20) (k_20 undef w_12 X_13))))
theorem ok_racelaw18_stands {R : Ending → World → Prop} {w0 : World} {p0 p1 : Value} (h : vc_racelaw18_stands R w0 (old w0) p0 p1) : Calls Tryz.prog 14 #[p0, p1] w0 R :=
  calls_of_vc (pl := pl_racelaw18_stands) Tryz.func14 (by kernel_rfl) (by kernel_rfl) h
noncomputable def pl_tail_Tail_Next : Plan := ⟨7, [], [], [0, 2], [], []⟩
def vc_tail_Tail_Next (R : Ending → World → Prop) (w0 : World) (X0 : XS) (p0 : Value) : Prop :=
 (rdW Tryz.prog X0 w0 (nilN p0) fun x4_3 =>
 rdV Tryz.prog X0 w0 (fld 78 1 1 1 x4_3) fun x5_4 =>
 rdV Tryz.prog X0 w0 (ld1 3 x5_4) fun x6_5 =>
 (fin R X0 w0 x6_5))
theorem ok_tail_Tail_Next {R : Ending → World → Prop} {w0 : World} {p0 : Value} (h : vc_tail_Tail_Next R w0 (old w0) p0) : Calls Tryz.prog 15 #[p0] w0 R :=
  calls_of_vc (pl := pl_tail_Tail_Next) Tryz.func15 (by kernel_rfl) (by kernel_rfl) h
noncomputable def pl_tail_Tail_Open : Plan := ⟨24, [(5, (Tryz.prog.cellsOf 90))], [16], [0, 2, 3, 10, 12], [], [3]⟩
def vc_tail_Tail_Open (R : Ending → World → Prop) (w0 : World) (X0 : XS) (p0 : Value) : Prop :=
 ((rdW Tryz.prog X0 w0 (nilN p0) fun x7_5 =>
 rdV Tryz.prog X0 w0 (fld 78 3 5 1 x7_5) fun x8_6 =>
 rdV Tryz.prog X0 w0 (ld1 76 x8_6) fun x9_7 =>
 eV Tryz.prog R X0 w0 true (Instr.range 76 x9_7) fun x10_8 w_9 X_10 =>
 (lp1 X_10 w_9 (.slice none 0 0) 3 fun J_12 n_13 v_17 w_15 X_16 =>
 eV Tryz.prog R X_16 w_15 true (Instr.next x10_8 false 0) fun x11_19 w_20 X_21 =>
 rdV Tryz.prog X_21 w_20 (Instr.extract x11_19 0) fun x12_22 =>
 (condW x12_22
 ((eV Tryz.prog R X_21 w_20 true (Instr.entry x10_8) fun x13_26 w_27 X_28 =>
 rdV Tryz.prog X_28 w_27 (Instr.extract x13_26 1) fun x14_29 =>
 un (Value.agg (Value.cells x14_29)) fun u_30 =>
 chk (List.length (Array.toList (Value.cells x14_29)) == 9) (chk (List.all (Array.toList (Value.cells x14_29)) one) ((chk (isA u_30) (un (subOf u_30 0 8) fun u_31 =>
 eC Tryz.prog R X_28 w_27 true 28 #[u_31] fun x18_32 w_33 X_34 =>
 eV Tryz.prog R X_34 w_33 true (bsS 47 87 8 1 #[(0, x18_32)]) fun x19_35 w_36 X_37 =>
 eV Tryz.prog R X_37 w_36 true (apS 47 87 8 96 47 v_17 x19_35) fun x20_38 w_39 X_40 =>
 (nx1 J_12 n_13 x20_38 w_39 X_40)))))))
 (((eC Tryz.prog R X_21 w_20 true 46 #[v_17, (Value.func (Fn.func 47) #[] #[])] fun _ w_43 X_44 =>
 (fin R X_44 w_43 v_17))))))))
theorem ok_tail_Tail_Open {R : Ending → World → Prop} {w0 : World} {p0 : Value} (h : vc_tail_Tail_Open R w0 (old w0) p0) : Calls Tryz.prog 16 #[p0] w0 R :=
  calls_of_vc (pl := pl_tail_Tail_Open) Tryz.func16 (by kernel_rfl) (by kernel_rfl) h
noncomputable def pl_tail_Tail_Closed : Plan := ⟨7, [(2, (Tryz.prog.cellsOf 34))], [], [0], [], []⟩
def vc_tail_Tail_Closed (R : Ending → World → Prop) (w0 : World) (X0 : XS) (p0 : Value) : Prop :=
 (rdW Tryz.prog X0 w0 (nilN p0) fun x4_3 =>
 rdV Tryz.prog X0 w0 (fld 78 2 2 3 x4_3) fun x5_4 =>
 rdV Tryz.prog X0 w0 (ldA 34 3 x5_4) fun x6_5 =>
 un (Value.agg (Value.cells x6_5)) fun u_6 =>
 chk (List.length (Array.toList (Value.cells x6_5)) == 3) (chk (List.all (Array.toList (Value.cells x6_5)) one) (un (subOf u_6 0 3) fun u_7 =>
 chk (List.all [u_6] isA) (fin R X0 w0 u_7))))
theorem ok_tail_Tail_Closed {R : Ending → World → Prop} {w0 : World} {p0 : Value} (h : vc_tail_Tail_Closed R w0 (old w0) p0) : Calls Tryz.prog 17 #[p0] w0 R :=
  calls_of_vc (pl := pl_tail_Tail_Closed) Tryz.func17 (by kernel_rfl) (by kernel_rfl) h
noncomputable def pl_tail_Tail_Resolved : Plan := ⟨34, [(2, (Tryz.prog.cellsOf 34)), (3, (Tryz.prog.cellsOf 34)), (5, (Tryz.prog.cellsOf 90)), (6, (Tryz.prog.cellsOf 34))], [22, 23], [0, 16, 18, 31], [], [3]⟩
def vc_tail_Tail_Resolved (R : Ending → World → Prop) (w0 : World) (X0 : XS) (p0 : Value) : Prop :=
 (rdW Tryz.prog X0 w0 (nilN p0) fun x9_3 =>
 rdV Tryz.prog X0 w0 (fld 78 2 2 3 x9_3) fun x10_4 =>
 rdV Tryz.prog X0 w0 (ldA 34 3 x10_4) fun x11_5 =>
 un (Value.agg (Value.cells x11_5)) fun u_6 =>
 chk (List.length (Array.toList (Value.cells x11_5)) == 3) (chk (List.all (Array.toList (Value.cells x11_5)) one) ((rdW Tryz.prog X0 w0 (nilN p0) fun x13_9 =>
 rdV Tryz.prog X0 w0 (fld 78 3 5 1 x13_9) fun x14_10 =>
 rdV Tryz.prog X0 w0 (ld1 76 x14_10) fun x15_11 =>
 eV Tryz.prog R X0 w0 true (Instr.range 76 x15_11) fun x16_12 w_13 X_14 =>
 (lp1 X_14 w_13 u_6 3 fun J_16 n_17 v_21 w_19 X_20 =>
 eV Tryz.prog R X_20 w_19 true (Instr.next x16_12 false 0) fun x17_23 w_24 X_25 =>
 rdV Tryz.prog X_25 w_24 (Instr.extract x17_23 0) fun x18_26 =>
 (condW x18_26
 (((jn (fun (y3_51 : Value) (w_52 : World) (X_53 : XS) =>
 nx1 J_16 n_17 y3_51 w_52 X_53) fun k_54 =>
 eV Tryz.prog R X_25 w_24 true (Instr.entry x16_12) fun x19_30 w_31 X_32 =>
 rdV Tryz.prog X_32 w_31 (Instr.extract x19_30 1) fun x20_33 =>
 un (Value.agg (Value.cells x20_33)) fun u_34 =>
 chk (List.length (Array.toList (Value.cells x20_33)) == 9) (chk (List.all (Array.toList (Value.cells x20_33)) one) ((chk (isA u_34) (un (subOf u_34 3 3) fun u_36 =>
 eC Tryz.prog R X_32 w_31 true 49 #[u_36] fun x25_37 w_38 X_39 =>
 rdV Tryz.prog X_39 w_38 (Instr.extract x25_37 0) fun x26_40 =>
 rdV Tryz.prog X_39 w_38 (Instr.extract x25_37 1) fun _ =>
 un (Value.agg (Value.cells x26_40)) fun u_42 =>
 chk (List.length (Array.toList (Value.cells x26_40)) == 3) (chk (List.all (Array.toList (Value.cells x26_40)) one) ((chk (isA u_42) (chk (isA v_21) (un (subOf u_42 0 3) fun u_44 =>
 un (subOf v_21 0 3) fun u_45 =>
 eC Tryz.prog R X_39 w_38 true 50 #[u_44, u_45] fun x30_46 w_47 X_48 =>
 rdV Tryz.prog X_48 w_47 (binOp .lss 3 x30_46 (I 0)) fun x31_49 =>
 (condW x31_49
 (chk (isA u_42) (chk (isA v_21) (un (Value.agg (Value.cells u_44)) fun u_50 =>
 chk (List.length (Array.toList (Value.cells u_44)) == 3) (chk (List.all (Array.toList (Value.cells u_44)) one) (k_54 u_50 w_47 X_48)))))
 (k_54 v_21 w_47 X_48))))))))))))))
 (((chk (isA v_21) (un (subOf v_21 0 3) fun u_56 =>
 un (Value.agg (Value.cells u_56)) fun u_57 =>
 chk (List.length (Array.toList (Value.cells u_56)) == 3) (chk (List.all (Array.toList (Value.cells u_56)) one) (un (subOf u_57 0 3) fun u_58 =>
 chk (List.all [u_57] isA) (fin R X_25 w_24 u_58)))))))))))))
theorem ok_tail_Tail_Resolved {R : Ending → World → Prop} {w0 : World} {p0 : Value} (h : vc_tail_Tail_Resolved R w0 (old w0) p0) : Calls Tryz.prog 18 #[p0] w0 R :=
  calls_of_vc (pl := pl_tail_Tail_Resolved) Tryz.func18 (by kernel_rfl) (by kernel_rfl) h
noncomputable def pl_tail_Tail_Need : Plan := ⟨24, [(5, (Tryz.prog.cellsOf 90))], [20], [0, 2, 3, 14, 16], [], [3]⟩
def vc_tail_Tail_Need (R : Ending → World → Prop) (w0 : World) (X0 : XS) (p0 : Value) : Prop :=
 (rdW Tryz.prog X0 w0 (nilN p0) fun x7_3 =>
 rdV Tryz.prog X0 w0 (fld 78 1 1 1 x7_3) fun x8_4 =>
 rdV Tryz.prog X0 w0 (ld1 3 x8_4) fun x9_5 =>
 (rdW Tryz.prog X0 w0 (nilN p0) fun x11_8 =>
 rdV Tryz.prog X0 w0 (fld 78 3 5 1 x11_8) fun x12_9 =>
 rdV Tryz.prog X0 w0 (ld1 76 x12_9) fun x13_10 =>
 eV Tryz.prog R X0 w0 true (Instr.range 76 x13_10) fun x14_11 w_12 X_13 =>
 (lp1 X_13 w_12 x9_5 3 fun J_15 n_16 v_20 w_18 X_19 =>
 eV Tryz.prog R X_19 w_18 true (Instr.next x14_11 false 0) fun x15_22 w_23 X_24 =>
 rdV Tryz.prog X_24 w_23 (Instr.extract x15_22 0) fun x16_25 =>
 (condW x16_25
 ((eV Tryz.prog R X_24 w_23 true (Instr.entry x14_11) fun x17_29 w_30 X_31 =>
 rdV Tryz.prog X_31 w_30 (Instr.extract x17_29 1) fun x18_32 =>
 un (Value.agg (Value.cells x18_32)) fun u_33 =>
 chk (List.length (Array.toList (Value.cells x18_32)) == 9) (chk (List.all (Array.toList (Value.cells x18_32)) one) ((chk (isA u_33) (un (cellOf u_33 8) fun u_34 =>
 rdV Tryz.prog X_31 w_30 (Builtin.min_ #[3, 3] 3 #[v_20, u_34]) fun x22_35 =>
 (nx1 J_15 n_16 x22_35 w_30 X_31)))))))
 (fin R X_24 w_23 v_20)))))
theorem ok_tail_Tail_Need {R : Ending → World → Prop} {w0 : World} {p0 : Value} (h : vc_tail_Tail_Need R w0 (old w0) p0) : Calls Tryz.prog 19 #[p0] w0 R :=
  calls_of_vc (pl := pl_tail_Tail_Need) Tryz.func19 (by kernel_rfl) (by kernel_rfl) h
noncomputable def pl_raceref_Pendings : Plan := ⟨27, [], [], [0, 1, 4, 5, 10, 14, 26], [], [5]⟩
def vc_raceref_Pendings (R : Ending → World → Prop) (w0 : World) (X0 : XS) (p0 p1 : Value) : Prop :=
 (rdV Tryz.prog X0 w0 (lnS 47 3 p0) fun x7_4 =>
 rdV Tryz.prog X0 w0 (lnS 47 3 p1) fun x9_5 =>
 rdV Tryz.prog X0 w0 (binS .neq 3 (.tmp 7) (.tmp 9) x7_4 x9_5) fun x10_6 =>
 (condW x10_6
 (fin R X0 w0 (B false))
 (((lp1 X0 w0 (I 0) 5 fun J_11 n_12 v_16 w_14 X_15 =>
 rdV Tryz.prog X_15 w_14 (lnS 47 3 p0) fun x13_19 =>
 rdV Tryz.prog X_15 w_14 (binOp .lss 3 v_16 x13_19) fun x14_20 =>
 (condW x14_20
 ((rdV Tryz.prog X_15 w_14 (ixS 47 8 p0 v_16) fun x19_24 =>
 rdV Tryz.prog X_15 w_14 (ldA 87 8 x19_24) fun x20_25 =>
 rdV Tryz.prog X_15 w_14 (ixS 47 8 p1 v_16) fun x23_26 =>
 rdV Tryz.prog X_15 w_14 (ldA 87 8 x23_26) fun x24_27 =>
 eC Tryz.prog R X_15 w_14 true 51 #[x20_25, x24_27] fun x25_28 w_29 X_30 =>
 rdV Tryz.prog X_30 w_29 (Op.unary UnOp.not x25_28) fun x26_31 =>
 (condW x26_31
 (fin R X_30 w_29 (B false))
 (((rdV Tryz.prog X_30 w_29 (binOp .add 3 v_16 (I 1)) fun x16_33 =>
 nx1 J_11 n_12 x16_33 w_29 X_30))))))
 (fin R X_15 w_14 (B true))))))))
theorem ok_raceref_Pendings {R : Ending → World → Prop} {w0 : World} {p0 p1 : Value} (h : vc_raceref_Pendings R w0 (old w0) p0 p1) : Calls Tryz.prog 20 #[p0, p1] w0 R :=
  calls_of_vc (pl := pl_raceref_Pendings) Tryz.func20 (by kernel_rfl) (by kernel_rfl) h
noncomputable def pl_raceref_WeighRec : Plan := ⟨67, [(2, (Tryz.prog.cellsOf 51))], [7, 11, 18, 27, 39, 49, 61], [0, 1, 4, 5, 6, 35], [31, 32, 33, 34, 38], [5, 6]⟩
def vc_raceref_WeighRec (R : Ending → World → Prop) (w0 : World) (X0 : XS) (_p0_0 _p0_1 _p0_2 _p0_3 _p0_4 _p0_5 _p0_6 _p0_7 _p0_8 _p0_9 : Int) (_p0_10 : Bool) (_p0_11 : Int) (_p0_12 : Nat) (p0_13 p0_14 p0_15 p0_16 : Value) (p0_17 p0_18 : Int) (p0_19 p0_20 : Nat) (p0_21 p0_22 p0_23 p0_24 p0_25 p0_26 : Int) (p0_27 p0_28 : Value) (p1 : Int) : Prop :=
 (eC Tryz.prog R X0 w0 false 53 #[p0_13, (I p1)] fun x10_3 w_4 X_5 =>
 eC Tryz.prog R X_5 w_4 false 54 #[p0_14, (I p1)] fun x14_6 w_7 X_8 =>
 eC Tryz.prog R X_8 w_7 true 52 #[x10_3, x14_6, (I p1)] fun x16_9 w_10 X_11 =>
 (rdV Tryz.prog X_11 w_10 (lnS 23 3 p0_15) fun x20_13 =>
 rdV Tryz.prog X_11 w_10 (binOp .add 3 (I p1) (I 1)) fun x22_14 =>
 rdV Tryz.prog X_11 w_10 (Builtin.min_ #[3, 3] 3 #[x20_13, x22_14]) fun x23_15 =>
 eC Tryz.prog R X_11 w_10 true 52 #[x16_9, x23_15, (I p1)] fun x25_16 w_17 X_18 =>
 ((lp2 X_18 w_17 (I 0) x25_16 6 5 fun J_22 n_23 v_27 v_28 w_25 X_26 =>
 rdV Tryz.prog X_26 w_25 (lnS 43 3 p0_16) fun x29_31 =>
 rdV Tryz.prog X_26 w_25 (binOp .lss 3 v_27 x29_31) fun x30_32 =>
 un (gSel x30_32 true v_28) fun u_33 =>
 un (gSel x30_32 true (I p1)) fun u_34 =>
 grdW Tryz.prog X_26 w_25 x30_32 true (vS (binOp .leq 3 u_33 u_34)) fun x34_35 =>
 rdW Tryz.prog X_26 w_25 (pickN x30_32 x34_35 (B false)) fun x35_36 =>
 (condW x35_36
 ((rdV Tryz.prog X_26 w_25 (ixS 43 4 p0_16 v_27) fun x42_39 =>
 rdV Tryz.prog X_26 w_25 (fld 82 0 0 1 x42_39) fun x43_40 =>
 rdV Tryz.prog X_26 w_25 (ld1 9 x43_40) fun x44_41 =>
 rdV Tryz.prog X_26 w_25 (lnT 9 3 x44_41) fun x45_42 =>
 rdV Tryz.prog X_26 w_25 (binOp .add 3 (I 1) x45_42) fun x46_43 =>
 rdV Tryz.prog X_26 w_25 (ixS 43 4 p0_16 v_27) fun x52_44 =>
 rdV Tryz.prog X_26 w_25 (fld 82 1 1 3 x52_44) fun x53_45 =>
 rdV Tryz.prog X_26 w_25 (fld 64 2 2 1 x53_45) fun x54_46 =>
 rdV Tryz.prog X_26 w_25 (ld1 9 x54_46) fun x55_47 =>
 rdV Tryz.prog X_26 w_25 (lnT 9 3 x55_47) fun x56_48 =>
 eC Tryz.prog R X_26 w_25 false 52 #[v_28, x46_43, (I p1)] fun x48_49 w_50 X_51 =>
 eC Tryz.prog R X_51 w_50 true 52 #[x48_49, x56_48, (I p1)] fun x58_52 w_53 X_54 =>
 ((rdV Tryz.prog X_54 w_53 (binOp .add 3 v_27 (I 1)) fun x37_55 =>
 nx2 J_22 n_23 x37_55 x58_52 w_53 X_54))))
 (((rdV Tryz.prog X_26 w_25 (binOp .add 3 v_28 (I 1)) fun x60_57 =>
 eC Tryz.prog R X_26 w_25 true 55 #[(.agg #[(I p0_17), (I p0_18), (.float .f64 p0_19), (.float .f64 p0_20), (I p0_21), (I p0_22), (I p0_23), (I p0_24), (I p0_25), (I p0_26), p0_27, p0_28]), (I p1)] fun x64_58 w_59 X_60 =>
 eC Tryz.prog R X_60 w_59 true 52 #[x60_57, x64_58, (I p1)] fun x66_61 w_62 X_63 =>
 (fin R X_63 w_62 x66_61)))))))))
theorem ok_raceref_WeighRec {R : Ending → World → Prop} {w0 : World} {p0_0 p0_1 p0_2 p0_3 p0_4 p0_5 p0_6 p0_7 p0_8 p0_9 : Int} {p0_10 : Bool} {p0_11 : Int} {p0_12 : Nat} {p0_13 p0_14 p0_15 p0_16 : Value} {p0_17 p0_18 : Int} {p0_19 p0_20 : Nat} {p0_21 p0_22 p0_23 p0_24 p0_25 p0_26 : Int} {p0_27 p0_28 : Value} {p1 : Int} (h : vc_raceref_WeighRec R w0 (old w0) p0_0 p0_1 p0_2 p0_3 p0_4 p0_5 p0_6 p0_7 p0_8 p0_9 p0_10 p0_11 p0_12 p0_13 p0_14 p0_15 p0_16 p0_17 p0_18 p0_19 p0_20 p0_21 p0_22 p0_23 p0_24 p0_25 p0_26 p0_27 p0_28 p1) : Calls Tryz.prog 21 #[(.agg #[(I p0_0), (I p0_1), (I p0_2), (I p0_3), (I p0_4), (I p0_5), (I p0_6), (I p0_7), (I p0_8), (I p0_9), (B p0_10), (I p0_11), (.float .f64 p0_12), p0_13, p0_14, p0_15, p0_16, (I p0_17), (I p0_18), (.float .f64 p0_19), (.float .f64 p0_20), (I p0_21), (I p0_22), (I p0_23), (I p0_24), (I p0_25), (I p0_26), p0_27, p0_28]), (I p1)] w0 R :=
  calls_of_vc (pl := pl_raceref_WeighRec) Tryz.func21 (by kernel_rfl) (by kernel_rfl) h
noncomputable def pl_raceref_Strings : Plan := ⟨19, [], [], [0, 2, 3, 4, 8], [], [3, 4]⟩
def vc_raceref_Strings (R : Ending → World → Prop) (w0 : World) (X0 : XS) (p0 : Value) : Prop :=
 (((lp2 X0 w0 (I 0) (.slice none 0 0) 4 3 fun J_6 n_7 v_11 v_12 w_9 X_10 =>
 rdV Tryz.prog X_10 w_9 (lnS 41 3 p0) fun x7_15 =>
 rdV Tryz.prog X_10 w_9 (binOp .lss 3 v_11 x7_15) fun x8_16 =>
 (condW x8_16
 ((rdV Tryz.prog X_10 w_9 (ixS 41 1 p0 v_11) fun x14_19 =>
 rdV Tryz.prog X_10 w_9 (ld1 9 x14_19) fun x15_20 =>
 eV Tryz.prog R X_10 w_9 true (bsS 41 9 1 1 #[(0, x15_20)]) fun x16_21 w_22 X_23 =>
 eV Tryz.prog R X_23 w_22 true (apS 41 9 1 16 41 v_12 x16_21) fun x17_24 w_25 X_26 =>
 ((rdV Tryz.prog X_26 w_25 (binOp .add 3 v_11 (I 1)) fun x10_27 =>
 nx2 J_6 n_7 x10_27 x17_24 w_25 X_26))))
 (fin R X_10 w_9 v_12)))))
theorem ok_raceref_Strings {R : Ending → World → Prop} {w0 : World} {p0 : Value} (h : vc_raceref_Strings R w0 (old w0) p0) : Calls Tryz.prog 22 #[p0] w0 R :=
  calls_of_vc (pl := pl_raceref_Strings) Tryz.func22 (by kernel_rfl) (by kernel_rfl) h
noncomputable def pl_raceref_CopyWrites : Plan := ⟨19, [], [], [0, 2, 3, 4, 8], [], [3, 4]⟩
def vc_raceref_CopyWrites (R : Ending → World → Prop) (w0 : World) (X0 : XS) (p0 : Value) : Prop :=
 (((lp2 X0 w0 (I 0) (.slice none 0 0) 4 3 fun J_6 n_7 v_11 v_12 w_9 X_10 =>
 rdV Tryz.prog X_10 w_9 (lnS 42 3 p0) fun x7_15 =>
 rdV Tryz.prog X_10 w_9 (binOp .lss 3 v_11 x7_15) fun x8_16 =>
 (condW x8_16
 ((rdV Tryz.prog X_10 w_9 (ixS 42 4 p0 v_11) fun x14_19 =>
 rdV Tryz.prog X_10 w_9 (ldA 66 4 x14_19) fun x15_20 =>
 eV Tryz.prog R X_10 w_9 true (bsS 42 66 4 1 #[(0, x15_20)]) fun x16_21 w_22 X_23 =>
 eV Tryz.prog R X_23 w_22 true (apS 42 66 4 48 42 v_12 x16_21) fun x17_24 w_25 X_26 =>
 ((rdV Tryz.prog X_26 w_25 (binOp .add 3 v_11 (I 1)) fun x10_27 =>
 nx2 J_6 n_7 x10_27 x17_24 w_25 X_26))))
 (fin R X_10 w_9 v_12)))))
theorem ok_raceref_CopyWrites {R : Ending → World → Prop} {w0 : World} {p0 : Value} (h : vc_raceref_CopyWrites R w0 (old w0) p0) : Calls Tryz.prog 23 #[p0] w0 R :=
  calls_of_vc (pl := pl_raceref_CopyWrites) Tryz.func23 (by kernel_rfl) (by kernel_rfl) h
noncomputable def pl_raceref_CopyInts : Plan := ⟨19, [], [], [0, 2, 3, 4, 8], [], [3, 4]⟩
def vc_raceref_CopyInts (R : Ending → World → Prop) (w0 : World) (X0 : XS) (p0 : Value) : Prop :=
 (((lp2 X0 w0 (I 0) (.slice none 0 0) 4 3 fun J_6 n_7 v_11 v_12 w_9 X_10 =>
 rdV Tryz.prog X_10 w_9 (lnS 23 3 p0) fun x7_15 =>
 rdV Tryz.prog X_10 w_9 (binOp .lss 3 v_11 x7_15) fun x8_16 =>
 (condW x8_16
 ((rdV Tryz.prog X_10 w_9 (ixS 23 1 p0 v_11) fun x14_19 =>
 rdV Tryz.prog X_10 w_9 (ld1 3 x14_19) fun x15_20 =>
 eV Tryz.prog R X_10 w_9 true (bsS 23 3 1 1 #[(0, x15_20)]) fun x16_21 w_22 X_23 =>
 eV Tryz.prog R X_23 w_22 true (apS 23 3 1 8 23 v_12 x16_21) fun x17_24 w_25 X_26 =>
 ((rdV Tryz.prog X_26 w_25 (binOp .add 3 v_11 (I 1)) fun x10_27 =>
 nx2 J_6 n_7 x10_27 x17_24 w_25 X_26))))
 (fin R X_10 w_9 v_12)))))
theorem ok_raceref_CopyInts {R : Ending → World → Prop} {w0 : World} {p0 : Value} (h : vc_raceref_CopyInts R w0 (old w0) p0) : Calls Tryz.prog 24 #[p0] w0 R :=
  calls_of_vc (pl := pl_raceref_CopyInts) Tryz.func24 (by kernel_rfl) (by kernel_rfl) h
noncomputable def pl_raceref_CopyState : Plan := ⟨16, [(1, (Tryz.prog.cellsOf 49)), (2, (Tryz.prog.cellsOf 49))], [3, 5, 7, 9, 12], [0], [], []⟩
def vc_raceref_CopyState (R : Ending → World → Prop) (w0 : World) (X0 : XS) (p0_0 p0_1 : Int) (p0_2 p0_3 : Nat) (p0_4 p0_5 p0_6 p0_7 p0_8 p0_9 : Int) (p0_10 p0_11 : Value) : Prop :=
 (eC Tryz.prog R X0 w0 false 56 #[p0_10] fun x11_3 w_4 X_5 =>
 eC Tryz.prog R X_5 w_4 false 57 #[p0_11] fun x14_6 w_7 X_8 =>
 rdV Tryz.prog X_8 w_7 (bld 49 #[(I p0_0), (I p0_1), (.float .f64 p0_2), (.float .f64 p0_3), (I p0_4), (I p0_5), (I p0_6), (I p0_7), (I p0_8), (I p0_9), x11_3, x14_6] #[(0, (.agg #[(I p0_0), (I p0_1), (.float .f64 p0_2), (.float .f64 p0_3)])), (1, (.agg #[(I p0_4), (I p0_5), (I p0_6)])), (2, (.agg #[(I p0_7), (I p0_8), (I p0_9)])), (3, x11_3), (4, x14_6)]) fun x15_9 =>
 un (Value.agg (Value.cells x15_9)) fun u_10 =>
 chk (List.length (Array.toList (Value.cells x15_9)) == 12) (chk (List.all (Array.toList (Value.cells x15_9)) one) (un (subOf u_10 0 12) fun u_11 =>
 chk (List.all [u_10] isA) (fin R X_8 w_7 u_11))))
theorem ok_raceref_CopyState {R : Ending → World → Prop} {w0 : World} {p0_0 p0_1 : Int} {p0_2 p0_3 : Nat} {p0_4 p0_5 p0_6 p0_7 p0_8 p0_9 : Int} {p0_10 p0_11 : Value} (h : vc_raceref_CopyState R w0 (old w0) p0_0 p0_1 p0_2 p0_3 p0_4 p0_5 p0_6 p0_7 p0_8 p0_9 p0_10 p0_11) : Calls Tryz.prog 25 #[(.agg #[(I p0_0), (I p0_1), (.float .f64 p0_2), (.float .f64 p0_3), (I p0_4), (I p0_5), (I p0_6), (I p0_7), (I p0_8), (I p0_9), p0_10, p0_11])] w0 R :=
  calls_of_vc (pl := pl_raceref_CopyState) Tryz.func25 (by kernel_rfl) (by kernel_rfl) h
noncomputable def pl_tail_Tail_may : Plan := ⟨78, [(5, (Tryz.prog.cellsOf 51)), (8, (Tryz.prog.cellsOf 87)), (9, (Tryz.prog.cellsOf 90)), (11, (Tryz.prog.cellsOf 90))], [26, 30, 31, 32, 39, 40, 52, 66], [0, 1, 2, 6, 10, 12, 22, 25, 27, 28, 38, 41, 42, 43, 44, 57, 59, 71, 72], [19, 20, 21], [43]⟩
def vc_tail_Tail_may (R : Ending → World → Prop) (w0 : World) (X0 : XS) (p0 : Value) (p1 p2_0 p2_1 p2_2 p2_3 p2_4 p2_5 p2_6 p2_7 p2_8 p2_9 : Int) (p2_10 : Bool) (p2_11 : Int) (p2_12 : Nat) (p2_13 p2_14 p2_15 p2_16 : Value) (p2_17 p2_18 : Int) (p2_19 p2_20 : Nat) (p2_21 p2_22 p2_23 p2_24 p2_25 p2_26 : Int) (p2_27 p2_28 : Value) : Prop :=
 (rdW Tryz.prog X0 w0 (nilN p0) fun x15_4 =>
 rdV Tryz.prog X0 w0 (fld 78 1 1 1 x15_4) fun x16_5 =>
 rdV Tryz.prog X0 w0 (ld1 3 x16_5) fun x17_6 =>
 rdV Tryz.prog X0 w0 (binS .neq 3 (.tmp 13) (.tmp 17) (I p1) x17_6) fun x18_7 =>
 un (gSel x18_7 false (I p1)) fun u_8 =>
 grdW Tryz.prog X0 w0 x18_7 false (vS (binOp .gtr 3 u_8 (I 99999999))) fun x21_9 =>
 rdW Tryz.prog X0 w0 (pickN x18_7 (B true) x21_9) fun x22_10 =>
 (condW x22_10
 (fin R X0 w0 (I 14))
 ((eC Tryz.prog R X0 w0 true 58 #[(.agg #[(I p2_0), (I p2_1), (I p2_2), (I p2_3), (I p2_4), (I p2_5), (I p2_6), (I p2_7), (I p2_8), (I p2_9), (B p2_10), (I p2_11), (.float .f64 p2_12), p2_13, p2_14, p2_15, p2_16, (I p2_17), (I p2_18), (.float .f64 p2_19), (.float .f64 p2_20), (I p2_21), (I p2_22), (I p2_23), (I p2_24), (I p2_25), (I p2_26), p2_27, p2_28])] fun x24_14 w_15 X_16 =>
 rdV Tryz.prog X_16 w_15 (binS .neq 27 (.tmp 24) (.const (I 0)) x24_14 (I 0)) fun x25_17 =>
 (condW x25_17
 (fin R X_16 w_15 (I 4))
 ((((jn (fun (w_86 : World) (X_87 : XS) =>
 (fin R X_87 w_86 (I 0))) fun k_88 =>
 rdV Tryz.prog X_16 w_15 (binS .eql 3 (.tmp 27) (.const (I 1)) (I p2_0) (I 1)) fun x29_23 =>
 (condW x29_23
 (rdW Tryz.prog X_16 w_15 (nilN p0) fun x35_26 =>
 rdV Tryz.prog X_16 w_15 (fld 78 0 0 1 x35_26) fun x36_27 =>
 rdV Tryz.prog X_16 w_15 (ld1 3 x36_27) fun x37_28 =>
 rdV Tryz.prog X_16 w_15 (binS .neq 3 (.tmp 33) (.tmp 37) (I p2_17) x37_28) fun x38_29 =>
 (condW x38_29
 (fin R X_16 w_15 (I 4))
 ((rdV Tryz.prog X_16 w_15 (lnS 47 3 p2_28) fun x42_32 =>
 (lp1 X_16 w_15 (I 0) 43 fun J_34 n_35 v_39 w_37 X_38 =>
 rdV Tryz.prog X_38 w_37 (binOp .lss 3 v_39 x42_32) fun x44_41 =>
 (condW x44_41
 ((rdV Tryz.prog X_38 w_37 (ixS 47 8 p2_28 v_39) fun x45_46 =>
 rdV Tryz.prog X_38 w_37 (ldA 87 8 x45_46) fun x46_47 =>
 un (Value.agg (Value.cells x46_47)) fun u_48 =>
 chk (List.length (Array.toList (Value.cells x46_47)) == 8) (chk (List.all (Array.toList (Value.cells x46_47)) one) ((rdW Tryz.prog X_38 w_37 (nilN p0) fun x49_50 =>
 rdV Tryz.prog X_38 w_37 (fld 78 3 5 1 x49_50) fun x50_51 =>
 rdV Tryz.prog X_38 w_37 (ld1 76 x50_51) fun x51_52 =>
 chk (isA u_48) (un (subOf u_48 0 3) fun u_53 =>
 rdV Tryz.prog X_38 w_37 (Instr.lookup 76 x51_52 u_53 true) fun x54_54 =>
 rdV Tryz.prog X_38 w_37 (Instr.extract x54_54 0) fun x55_55 =>
 rdV Tryz.prog X_38 w_37 (Instr.extract x54_54 1) fun x56_56 =>
 un (Value.agg (Value.cells x55_55)) fun _ =>
 chk (List.length (Array.toList (Value.cells x55_55)) == 9) (chk (List.all (Array.toList (Value.cells x55_55)) one) (((condW x56_56
 (fin R X_38 w_37 (I 9))
 (((rdV Tryz.prog X_38 w_37 (binOp .add 3 v_39 (I 1)) fun x58_60 =>
 nx1 J_34 n_35 x58_60 w_37 X_38)))))))))))))
 (k_88 w_37 X_38)))))))
 (rdV Tryz.prog X_16 w_15 (binS .eql 3 (.tmp 27) (.const (I 3)) (I p2_0) (I 3)) fun x60_62 =>
 (condW x60_62
 (rdW Tryz.prog X_16 w_15 (nilN p0) fun x63_64 =>
 rdV Tryz.prog X_16 w_15 (fld 78 3 5 1 x63_64) fun x64_65 =>
 rdV Tryz.prog X_16 w_15 (ld1 76 x64_65) fun x65_66 =>
 rdV Tryz.prog X_16 w_15 (Instr.lookup 76 x65_66 (.agg #[(I p2_1), (I p2_2), (I p2_3)]) true) fun x68_67 =>
 rdV Tryz.prog X_16 w_15 (Instr.extract x68_67 0) fun x69_68 =>
 rdV Tryz.prog X_16 w_15 (Instr.extract x68_67 1) fun x70_69 =>
 un (Value.agg (Value.cells x69_68)) fun _ =>
 chk (List.length (Array.toList (Value.cells x69_68)) == 9) (chk (List.all (Array.toList (Value.cells x69_68)) one) (((condW x70_69
 (fin R X_16 w_15 (I 9))
 (k_88 w_15 X_16))))))
 ((jn (fun (y72_83 : Value) =>
 condW y72_83
 (k_88 w_15 X_16)
 (fin R X_16 w_15 (I 4))) fun k_84 =>
 rdV Tryz.prog X_16 w_15 (binS .eql 3 (.tmp 27) (.const (I 2)) (I p2_0) (I 2)) fun x73_75 =>
 (condW x73_75
 (k_84 x73_75)
 (rdV Tryz.prog X_16 w_15 (binS .eql 3 (.tmp 27) (.const (I 4)) (I p2_0) (I 4)) fun x74_77 =>
 (condW x74_77
 (k_84 x74_77)
 (rdV Tryz.prog X_16 w_15 (binS .eql 3 (.tmp 27) (.const (I 5)) (I p2_0) (I 5)) fun x75_79 =>
 (condW x75_79
 (k_84 x75_79)
 (rdV Tryz.prog X_16 w_15 (binS .eql 3 (.tmp 27) (.const (I 6)) (I p2_0) (I 6)) fun x76_81 =>
 (condW x76_81
 (k_84 x76_81)
 (rdV Tryz.prog X_16 w_15 (binS .eql 3 (.tmp 27) (.const (I 7)) (I p2_0) (I 7)) fun x77_82 =>
 (k_84 x77_82)))))))))))))))))))))))
theorem ok_tail_Tail_may {R : Ending → World → Prop} {w0 : World} {p0 : Value} {p1 p2_0 p2_1 p2_2 p2_3 p2_4 p2_5 p2_6 p2_7 p2_8 p2_9 : Int} {p2_10 : Bool} {p2_11 : Int} {p2_12 : Nat} {p2_13 p2_14 p2_15 p2_16 : Value} {p2_17 p2_18 : Int} {p2_19 p2_20 : Nat} {p2_21 p2_22 p2_23 p2_24 p2_25 p2_26 : Int} {p2_27 p2_28 : Value} (h : vc_tail_Tail_may R w0 (old w0) p0 p1 p2_0 p2_1 p2_2 p2_3 p2_4 p2_5 p2_6 p2_7 p2_8 p2_9 p2_10 p2_11 p2_12 p2_13 p2_14 p2_15 p2_16 p2_17 p2_18 p2_19 p2_20 p2_21 p2_22 p2_23 p2_24 p2_25 p2_26 p2_27 p2_28) : Calls Tryz.prog 26 #[p0, (I p1), (.agg #[(I p2_0), (I p2_1), (I p2_2), (I p2_3), (I p2_4), (I p2_5), (I p2_6), (I p2_7), (I p2_8), (I p2_9), (B p2_10), (I p2_11), (.float .f64 p2_12), p2_13, p2_14, p2_15, p2_16, (I p2_17), (I p2_18), (.float .f64 p2_19), (.float .f64 p2_20), (I p2_21), (I p2_22), (I p2_23), (I p2_24), (I p2_25), (I p2_26), p2_27, p2_28])] w0 R :=
  calls_of_vc (pl := pl_tail_Tail_may) Tryz.func26 (by kernel_rfl) (by kernel_rfl) h
noncomputable def pl_hlc_Later : Plan := ⟨11, [(2, (Tryz.prog.cellsOf 34)), (3, (Tryz.prog.cellsOf 34)), (4, (Tryz.prog.cellsOf 34))], [], [0, 1, 8], [], []⟩
def vc_hlc_Later (R : Ending → World → Prop) (w0 : World) (X0 : XS) (p0_0 p0_1 p0_2 p1_0 p1_1 p1_2 : Int) : Prop :=
 (eC Tryz.prog R X0 w0 true 50 #[(.agg #[(I p0_0), (I p0_1), (I p0_2)]), (.agg #[(I p1_0), (I p1_1), (I p1_2)])] fun x7_4 w_5 X_6 =>
 rdV Tryz.prog X_6 w_5 (binOp .lss 3 x7_4 (I 0)) fun x8_7 =>
 (condW x8_7
 ((fin R X_6 w_5 (.agg #[(I p1_0), (I p1_1), (I p1_2)])))
 (((fin R X_6 w_5 (.agg #[(I p0_0), (I p0_1), (I p0_2)]))))))
theorem ok_hlc_Later {R : Ending → World → Prop} {w0 : World} {p0_0 p0_1 p0_2 p1_0 p1_1 p1_2 : Int} (h : vc_hlc_Later R w0 (old w0) p0_0 p0_1 p0_2 p1_0 p1_1 p1_2) : Calls Tryz.prog 27 #[(.agg #[(I p0_0), (I p0_1), (I p0_2)]), (.agg #[(I p1_0), (I p1_1), (I p1_2)])] w0 R :=
  calls_of_vc (pl := pl_hlc_Later) Tryz.func27 (by kernel_rfl) (by kernel_rfl) h
noncomputable def pl_tail_clone : Plan := ⟨12, [(1, (Tryz.prog.cellsOf 87)), (2, (Tryz.prog.cellsOf 87))], [3, 6, 9, 10], [0], [4, 7], []⟩
def vc_tail_clone (R : Ending → World → Prop) (w0 : World) (X0 : XS) (p0_0 p0_1 p0_2 p0_3 p0_4 p0_5 : Int) (p0_6 p0_7 : Value) : Prop :=
 (eC Tryz.prog R X0 w0 false 59 #[p0_6] fun x5_3 w_4 X_5 =>
 eC Tryz.prog R X_5 w_4 false 60 #[p0_7] fun x8_6 w_7 X_8 =>
 chk (one x5_3) (chk (one x8_6) ((chk (List.all [(I p0_0), (I p0_1), (I p0_2), (I p0_3), (I p0_4), (I p0_5), x5_3, x8_6] one) ((fin R X_8 w_7 (.agg #[(I p0_0), (I p0_1), (I p0_2), (I p0_3), (I p0_4), (I p0_5), x5_3, x8_6])))))))
theorem ok_tail_clone {R : Ending → World → Prop} {w0 : World} {p0_0 p0_1 p0_2 p0_3 p0_4 p0_5 : Int} {p0_6 p0_7 : Value} (h : vc_tail_clone R w0 (old w0) p0_0 p0_1 p0_2 p0_3 p0_4 p0_5 p0_6 p0_7) : Calls Tryz.prog 28 #[(.agg #[(I p0_0), (I p0_1), (I p0_2), (I p0_3), (I p0_4), (I p0_5), p0_6, p0_7])] w0 R :=
  calls_of_vc (pl := pl_tail_clone) Tryz.func28 (by kernel_rfl) (by kernel_rfl) h
noncomputable def pl_tail_Tail_split : Plan := ⟨75, [(4, (Tryz.prog.cellsOf 56)), (6, (Tryz.prog.cellsOf 39)), (8, (Tryz.prog.cellsOf 39)), (9, (Tryz.prog.cellsOf 90))], [46, 47, 54, 55, 56, 57, 61, 62], [0, 1, 3, 5, 24, 26, 33, 34, 35, 36], [], [5, 35]⟩
def vc_tail_Tail_split (R : Ending → World → Prop) (w0 : World) (X0 : XS) (p0 : Value) (p1_0 p1_1 p1_2 p1_3 p1_4 p1_5 p1_6 p1_7 p1_8 p1_9 : Int) (p1_10 : Bool) (p1_11 : Int) (p1_12 : Nat) (p1_13 p1_14 p1_15 p1_16 : Value) (p1_17 p1_18 : Int) (p1_19 p1_20 : Nat) (p1_21 p1_22 p1_23 p1_24 p1_25 p1_26 : Int) (p1_27 p1_28 : Value) : Prop :=
 eV Tryz.prog R X0 w0 true (Instr.box 51 (.agg #[(I p1_0), (I p1_1), (I p1_2), (I p1_3), (I p1_4), (I p1_5), (I p1_6), (I p1_7), (I p1_8), (I p1_9), (B p1_10), (I p1_11), (.float .f64 p1_12), p1_13, p1_14, p1_15, p1_16, (I p1_17), (I p1_18), (.float .f64 p1_19), (.float .f64 p1_20), (I p1_21), (I p1_22), (I p1_23), (I p1_24), (I p1_25), (I p1_26), p1_27, p1_28])) fun x3_2 w_3 X_4 =>
 (rdW Tryz.prog X_4 w_3 (nilN p0) fun x12_6 =>
 rdV Tryz.prog X_4 w_3 (fld 78 2 2 3 x12_6) fun x13_7 =>
 rdV Tryz.prog X_4 w_3 (ldA 34 3 x13_7) fun x14_8 =>
 rdV Tryz.prog X_4 w_3 (fld 51 2 4 3 x3_2) fun x15_9 =>
 rdV Tryz.prog X_4 w_3 (ldA 34 3 x15_9) fun x16_10 =>
 eC Tryz.prog R X_4 w_3 false 27 #[x14_8, x16_10] fun x17_11 w_12 X_13 =>
 rdW Tryz.prog X_13 w_12 (nilN p0) fun x18_14 =>
 rdV Tryz.prog X_13 w_12 (fld 78 2 2 3 x18_14) fun x19_15 =>
 eU Tryz.prog R X_13 w_12 true (st1 34 3 x19_15 x17_11) fun _ w_16 X_17 =>
 ((rdW Tryz.prog X_17 w_16 (nilN p0) fun x21_21 =>
 rdV Tryz.prog X_17 w_16 (fld 78 3 5 1 x21_21) fun x22_22 =>
 rdV Tryz.prog X_17 w_16 (ld1 76 x22_22) fun x23_23 =>
 eV Tryz.prog R X_17 w_16 true (Instr.range 76 x23_23) fun x24_24 w_25 X_26 =>
 (lp1 X_26 w_25 (.slice none 0 0) 5 fun J_28 n_29 v_33 w_31 X_32 =>
 eV Tryz.prog R X_32 w_31 true (Instr.next x24_24 false 0) fun x25_35 w_36 X_37 =>
 rdV Tryz.prog X_37 w_36 (Instr.extract x25_35 0) fun x26_38 =>
 (condW x26_38
 ((eV Tryz.prog R X_37 w_36 true (Instr.entry x24_24) fun x27_42 w_43 X_44 =>
 rdV Tryz.prog X_44 w_43 (Instr.extract x27_42 0) fun x28_45 =>
 un (Value.agg (Value.cells x28_45)) fun u_46 =>
 chk (List.length (Array.toList (Value.cells x28_45)) == 3) (chk (List.all (Array.toList (Value.cells x28_45)) one) ((chk (isA u_46) (un (subOf u_46 0 3) fun u_47 =>
 eV Tryz.prog R X_44 w_43 true (bsS 122 39 3 1 #[(0, u_47)]) fun x31_48 w_49 X_50 =>
 eV Tryz.prog R X_50 w_49 true (apS 122 39 3 24 122 v_33 x31_48) fun x32_51 w_52 X_53 =>
 (nx1 J_28 n_29 x32_51 w_52 X_53)))))))
 (((rdV Tryz.prog X_37 w_36 (lnS 122 3 v_33) fun x34_56 =>
 (lp1 X_37 w_36 (I 0) 35 fun J_58 n_59 v_63 w_61 X_62 =>
 rdV Tryz.prog X_62 w_61 (binOp .lss 3 v_63 x34_56) fun x36_65 =>
 (condW x36_65
 ((rdV Tryz.prog X_62 w_61 (ixS 122 3 v_33 v_63) fun x37_70 =>
 rdV Tryz.prog X_62 w_61 (ldA 39 3 x37_70) fun x38_71 =>
 un (Value.agg (Value.cells x38_71)) fun u_72 =>
 chk (List.length (Array.toList (Value.cells x38_71)) == 3) (chk (List.all (Array.toList (Value.cells x38_71)) one) ((rdW Tryz.prog X_62 w_61 (nilN p0) fun x40_74 =>
 rdV Tryz.prog X_62 w_61 (fld 78 3 5 1 x40_74) fun x41_75 =>
 rdV Tryz.prog X_62 w_61 (ld1 76 x41_75) fun x42_76 =>
 chk (isA u_72) (un (subOf u_72 0 3) fun u_77 =>
 rdV Tryz.prog X_62 w_61 (Instr.lookup 76 x42_76 u_77 false) fun x44_78 =>
 un (Value.agg (Value.cells x44_78)) fun u_79 =>
 chk (List.length (Array.toList (Value.cells x44_78)) == 9) (chk (List.all (Array.toList (Value.cells x44_78)) one) ((chk (isA u_79) (rdV Tryz.prog X_62 w_61 (fld 51 6 12 1 x3_2) fun x49_81 =>
 rdV Tryz.prog X_62 w_61 (ld1 40 x49_81) fun x50_82 =>
 un (cellOf u_79 7) fun u_83 =>
 eC Tryz.prog R X_62 w_61 true 61 #[u_83, x50_82] fun x51_84 w_85 X_86 =>
 rdV Tryz.prog X_86 w_85 (Instr.extract x51_84 0) fun x52_87 =>
 rdV Tryz.prog X_86 w_85 (Instr.extract x51_84 1) fun _ =>
 un (Value.agg (List.toArray (setL (Array.toList (Value.cells u_79)) 7 [x52_87]))) fun u_89 =>
 chk (one x52_87) ((chk (isA u_89) (rdV Tryz.prog X_86 w_85 (Instr.makeFunc (Fn.func 63) #[] #[x3_2]) fun x59_91 =>
 un (cellOf u_89 6) fun u_92 =>
 eC Tryz.prog R X_86 w_85 true 62 #[u_92, x59_91] fun x60_93 w_94 X_95 =>
 un (Value.agg (List.toArray (setL (Array.toList (Value.cells u_89)) 6 [x60_93]))) fun u_96 =>
 chk (one x60_93) ((rdW Tryz.prog X_95 w_94 (nilN p0) fun x64_97 =>
 rdV Tryz.prog X_95 w_94 (fld 78 3 5 1 x64_97) fun x65_98 =>
 rdV Tryz.prog X_95 w_94 (ld1 76 x65_98) fun x66_99 =>
 chk (isA u_72) (chk (isA u_96) (un (subOf u_96 0 9) fun u_100 =>
 eU Tryz.prog R X_95 w_94 true (Instr.mapUpdate 76 x66_99 u_77 u_100) fun _ w_101 X_102 =>
 ((rdV Tryz.prog X_102 w_101 (binOp .add 3 v_63 (I 1)) fun x69_103 =>
 nx1 J_58 n_59 x69_103 w_101 X_102)))))))))))))))))))
 (((rdV Tryz.prog X_62 w_61 (fld 51 5 11 1 x3_2) fun x70_105 =>
 rdV Tryz.prog X_62 w_61 (ld1 3 x70_105) fun x71_106 =>
 eC Tryz.prog R X_62 w_61 false 18 #[p0] fun x73_107 w_108 X_109 =>
 un (cellOf x73_107 0) fun u_110 =>
 un (cellOf x73_107 1) fun u_111 =>
 un (cellOf x73_107 2) fun u_112 =>
 rdV Tryz.prog X_109 w_108 (bld 56 #[(I 2), (I 0), (I 0), (I 0), (I 0), (I 0), (I 0), (I 0), (I 0), (.slice none 0 0), x71_106, u_110, u_111, u_112] #[(0, (I 2)), (2, x71_106), (3, x73_107)]) fun x74_113 =>
 un (Value.agg (Value.cells x74_113)) fun u_114 =>
 chk (List.length (Array.toList (Value.cells x74_113)) == 14) (chk (List.all (Array.toList (Value.cells x74_113)) one) (un (subOf u_114 0 14) fun u_115 =>
 chk (List.all [u_114] isA) (fin R X_109 w_108 u_115))))))))))))))))
theorem ok_tail_Tail_split {R : Ending → World → Prop} {w0 : World} {p0 : Value} {p1_0 p1_1 p1_2 p1_3 p1_4 p1_5 p1_6 p1_7 p1_8 p1_9 : Int} {p1_10 : Bool} {p1_11 : Int} {p1_12 : Nat} {p1_13 p1_14 p1_15 p1_16 : Value} {p1_17 p1_18 : Int} {p1_19 p1_20 : Nat} {p1_21 p1_22 p1_23 p1_24 p1_25 p1_26 : Int} {p1_27 p1_28 : Value} (h : vc_tail_Tail_split R w0 (old w0) p0 p1_0 p1_1 p1_2 p1_3 p1_4 p1_5 p1_6 p1_7 p1_8 p1_9 p1_10 p1_11 p1_12 p1_13 p1_14 p1_15 p1_16 p1_17 p1_18 p1_19 p1_20 p1_21 p1_22 p1_23 p1_24 p1_25 p1_26 p1_27 p1_28) : Calls Tryz.prog 29 #[p0, (.agg #[(I p1_0), (I p1_1), (I p1_2), (I p1_3), (I p1_4), (I p1_5), (I p1_6), (I p1_7), (I p1_8), (I p1_9), (B p1_10), (I p1_11), (.float .f64 p1_12), p1_13, p1_14, p1_15, p1_16, (I p1_17), (I p1_18), (.float .f64 p1_19), (.float .f64 p1_20), (I p1_21), (I p1_22), (I p1_23), (I p1_24), (I p1_25), (I p1_26), p1_27, p1_28])] w0 R :=
  calls_of_vc (pl := pl_tail_Tail_split) Tryz.func29 (by kernel_rfl) (by kernel_rfl) h
noncomputable def pl_raceref18_Tail_refuses : Plan := ⟨70, [(5, (Tryz.prog.cellsOf 51))], [22, 27, 31, 32, 33, 42, 47, 53, 54, 61, 62], [0, 1, 2, 6, 7, 17, 41, 51, 57, 69], [14, 15, 16, 21, 23, 24, 26, 28, 29, 30, 34, 35, 36, 37, 38, 39, 40, 45, 46, 48, 49, 50], [7]⟩
def vc_raceref18_Tail_refuses (R : Ending → World → Prop) (w0 : World) (X0 : XS) (p0 : Value) (p1 p2_0 p2_1 p2_2 p2_3 p2_4 p2_5 p2_6 p2_7 p2_8 p2_9 : Int) (p2_10 : Bool) (p2_11 : Int) (p2_12 : Nat) (p2_13 p2_14 p2_15 p2_16 : Value) (p2_17 p2_18 : Int) (p2_19 p2_20 : Nat) (p2_21 p2_22 p2_23 p2_24 p2_25 p2_26 : Int) (p2_27 p2_28 : Value) : Prop :=
 (rdW Tryz.prog X0 w0 (nilN p0) fun x10_4 =>
 rdV Tryz.prog X0 w0 (fld 37 1 1 1 x10_4) fun x11_5 =>
 rdV Tryz.prog X0 w0 (ld1 3 x11_5) fun x12_6 =>
 rdV Tryz.prog X0 w0 (binS .neq 3 (.tmp 8) (.tmp 12) (I p1) x12_6) fun x13_7 =>
 un (gSel x13_7 false (I p1)) fun u_8 =>
 grdW Tryz.prog X0 w0 x13_7 false (vS (binOp .gtr 3 u_8 (I 99999999))) fun x16_9 =>
 rdW Tryz.prog X0 w0 (pickN x13_7 (B true) x16_9) fun x17_10 =>
 (condW x17_10
 (fin R X0 w0 (I 14))
 ((eC Tryz.prog R X0 w0 true 65 #[(.agg #[(I p2_0), (I p2_1), (I p2_2), (I p2_3), (I p2_4), (I p2_5), (I p2_6), (I p2_7), (I p2_8), (I p2_9), (B p2_10), (I p2_11), (.float .f64 p2_12), p2_13, p2_14, p2_15, p2_16, (I p2_17), (I p2_18), (.float .f64 p2_19), (.float .f64 p2_20), (I p2_21), (I p2_22), (I p2_23), (I p2_24), (I p2_25), (I p2_26), p2_27, p2_28])] fun x19_14 w_15 X_16 =>
 rdV Tryz.prog X_16 w_15 (binS .neq 27 (.tmp 19) (.const (I 0)) x19_14 (I 0)) fun x20_17 =>
 un (gSel x20_17 false (I p2_0)) fun u_18 =>
 grdW Tryz.prog X_16 w_15 x20_17 false (vS (binOp .gtr 3 u_18 (I 7))) fun x24_19 =>
 rdW Tryz.prog X_16 w_15 (pickN x20_17 (B true) x24_19) fun x25_20 =>
 un (gSel x25_20 false (I p2_0)) fun u_21 =>
 grdW Tryz.prog X_16 w_15 x25_20 false (vS (binS .eql 3 (.tmp 28) (.const (I 1)) u_21 (I 1))) fun x29_22 =>
 un (gSel x25_20 false x29_22) fun u_23 =>
 un (gSel u_23 true (I p2_17)) fun u_24 =>
 un (gSel u_23 true p0) fun u_25 =>
 grdW Tryz.prog X_16 w_15 u_23 true (nilN u_25) fun x36_26 =>
 grdW Tryz.prog X_16 w_15 u_23 true (vS (fld 37 0 0 1 x36_26)) fun x37_27 =>
 grdW Tryz.prog X_16 w_15 u_23 true (vS (ld1 3 x37_27)) fun x38_28 =>
 grdW Tryz.prog X_16 w_15 u_23 true (vS (binS .neq 3 (.tmp 34) (.tmp 38) u_24 x38_28)) fun x39_29 =>
 grdW Tryz.prog X_16 w_15 x25_20 false (pickN u_23 x39_29 (B false)) fun x40_30 =>
 rdW Tryz.prog X_16 w_15 (pickN x25_20 (B true) x40_30) fun x41_31 =>
 (condW x41_31
 (fin R X_16 w_15 (I 4))
 ((rdV Tryz.prog X_16 w_15 (binS .eql 3 (.tmp 43) (.const (I 3)) (I p2_0) (I 3)) fun x44_35 =>
 un (gSel x44_35 true p0) fun u_36 =>
 un (gSel x44_35 true (.agg #[(I p2_1), (I p2_2), (I p2_3)])) fun u_37 =>
 jn (fun (x49_38 : Value) (w_39 : World) (X_40 : XS) =>
 grdW Tryz.prog X_40 w_39 x44_35 true (vS (binOp .geq 3 x49_38 (I 0))) fun x50_42 =>
 rdW Tryz.prog X_40 w_39 (pickN x44_35 x50_42 (B false)) fun x51_43 =>
 (condW x51_43
 (fin R X_40 w_39 (I 9))
 (((lp1 X_40 w_39 (I 0) 7 fun J_48 n_49 v_53 w_51 X_52 =>
 rdV Tryz.prog X_52 w_51 (lnS 47 3 p2_28) fun x56_56 =>
 rdV Tryz.prog X_52 w_51 (binOp .lss 3 v_53 x56_56) fun x57_57 =>
 (condW x57_57
 ((rdV Tryz.prog X_52 w_51 (ixS 47 8 p2_28 v_53) fun x65_61 =>
 rdV Tryz.prog X_52 w_51 (fld 87 0 0 3 x65_61) fun x66_62 =>
 rdV Tryz.prog X_52 w_51 (ldA 39 3 x66_62) fun x67_63 =>
 eC Tryz.prog R X_52 w_51 true 66 #[p0, x67_63] fun x68_64 w_65 X_66 =>
 rdV Tryz.prog X_66 w_65 (binOp .geq 3 x68_64 (I 0)) fun x69_67 =>
 (condW x69_67
 (fin R X_66 w_65 (I 9))
 (((rdV Tryz.prog X_66 w_65 (binOp .add 3 v_53 (I 1)) fun x59_69 =>
 nx1 J_48 n_49 x59_69 w_65 X_66))))))
 (fin R X_52 w_51 (I 0)))))))) fun k_41 =>
 (gE x44_35 true (eC Tryz.prog R X_16 w_15 true 66 #[u_36, u_37] k_41) (k_41 undef w_15 X_16)))))))))
theorem ok_raceref18_Tail_refuses {R : Ending → World → Prop} {w0 : World} {p0 : Value} {p1 p2_0 p2_1 p2_2 p2_3 p2_4 p2_5 p2_6 p2_7 p2_8 p2_9 : Int} {p2_10 : Bool} {p2_11 : Int} {p2_12 : Nat} {p2_13 p2_14 p2_15 p2_16 : Value} {p2_17 p2_18 : Int} {p2_19 p2_20 : Nat} {p2_21 p2_22 p2_23 p2_24 p2_25 p2_26 : Int} {p2_27 p2_28 : Value} (h : vc_raceref18_Tail_refuses R w0 (old w0) p0 p1 p2_0 p2_1 p2_2 p2_3 p2_4 p2_5 p2_6 p2_7 p2_8 p2_9 p2_10 p2_11 p2_12 p2_13 p2_14 p2_15 p2_16 p2_17 p2_18 p2_19 p2_20 p2_21 p2_22 p2_23 p2_24 p2_25 p2_26 p2_27 p2_28) : Calls Tryz.prog 30 #[p0, (I p1), (.agg #[(I p2_0), (I p2_1), (I p2_2), (I p2_3), (I p2_4), (I p2_5), (I p2_6), (I p2_7), (I p2_8), (I p2_9), (B p2_10), (I p2_11), (.float .f64 p2_12), p2_13, p2_14, p2_15, p2_16, (I p2_17), (I p2_18), (.float .f64 p2_19), (.float .f64 p2_20), (I p2_21), (I p2_22), (I p2_23), (I p2_24), (I p2_25), (I p2_26), p2_27, p2_28])] w0 R :=
  calls_of_vc (pl := pl_raceref18_Tail_refuses) Tryz.func30 (by kernel_rfl) (by kernel_rfl) h
noncomputable def pl_raceref8_Later : Plan := ⟨10, [(2, (Tryz.prog.cellsOf 34)), (3, (Tryz.prog.cellsOf 34)), (4, (Tryz.prog.cellsOf 34))], [], [0, 1, 7], [], []⟩
def vc_raceref8_Later (R : Ending → World → Prop) (w0 : World) (X0 : XS) (p0_0 p0_1 p0_2 p1_0 p1_1 p1_2 : Int) : Prop :=
 (eC Tryz.prog R X0 w0 true 67 #[(.agg #[(I p0_0), (I p0_1), (I p0_2)]), (.agg #[(I p1_0), (I p1_1), (I p1_2)])] fun x7_4 w_5 X_6 =>
 (condW x7_4
 ((fin R X_6 w_5 (.agg #[(I p1_0), (I p1_1), (I p1_2)])))
 (((fin R X_6 w_5 (.agg #[(I p0_0), (I p0_1), (I p0_2)]))))))
theorem ok_raceref8_Later {R : Ending → World → Prop} {w0 : World} {p0_0 p0_1 p0_2 p1_0 p1_1 p1_2 : Int} (h : vc_raceref8_Later R w0 (old w0) p0_0 p0_1 p0_2 p1_0 p1_1 p1_2) : Calls Tryz.prog 31 #[(.agg #[(I p0_0), (I p0_1), (I p0_2)]), (.agg #[(I p1_0), (I p1_1), (I p1_2)])] w0 R :=
  calls_of_vc (pl := pl_raceref8_Later) Tryz.func31 (by kernel_rfl) (by kernel_rfl) h
noncomputable def pl_raceref18_Tail_put : Plan := ⟨59, [(4, (Tryz.prog.cellsOf 87))], [25], [0, 1, 2, 6, 7, 28], [15, 16, 17, 18, 19, 20, 21, 22, 23, 24, 26, 27], [6, 7]⟩
def vc_raceref18_Tail_put (R : Ending → World → Prop) (w0 : World) (X0 : XS) (p0 : Value) (p1_0 p1_1 p1_2 p1_3 p1_4 p1_5 : Int) (p1_6 p1_7 : Value) (p2 : Int) : Prop :=
 (((lp2 X0 w0 (I 0) (.slice none 0 0) 7 6 fun J_6 n_7 v_11 v_12 w_9 X_10 =>
 rdW Tryz.prog X_10 w_9 (nilN p0) fun x10_15 =>
 rdV Tryz.prog X_10 w_9 (fld 37 3 5 1 x10_15) fun x11_16 =>
 rdV Tryz.prog X_10 w_9 (ld1 35 x11_16) fun x12_17 =>
 rdV Tryz.prog X_10 w_9 (lnS 35 3 x12_17) fun x13_18 =>
 rdV Tryz.prog X_10 w_9 (binOp .lss 3 v_11 x13_18) fun x14_19 =>
 un (gSel x14_19 true p0) fun u_20 =>
 grdW Tryz.prog X_10 w_9 x14_19 true (nilN u_20) fun x17_21 =>
 grdW Tryz.prog X_10 w_9 x14_19 true (vS (fld 37 3 5 1 x17_21)) fun x18_22 =>
 grdW Tryz.prog X_10 w_9 x14_19 true (vS (ld1 35 x18_22)) fun x19_23 =>
 un (gSel x14_19 true v_11) fun u_24 =>
 grdW Tryz.prog X_10 w_9 x14_19 true (vS (ixS 35 9 x19_23 u_24)) fun x21_25 =>
 grdW Tryz.prog X_10 w_9 x14_19 true (vS (fld 98 0 0 8 x21_25)) fun x22_26 =>
 grdW Tryz.prog X_10 w_9 x14_19 true (vS (fld 87 0 0 3 x22_26)) fun x23_27 =>
 grdW Tryz.prog X_10 w_9 x14_19 true (vS (ldA 39 3 x23_27)) fun x24_28 =>
 un (gSel x14_19 true (.agg #[(I p1_0), (I p1_1), (I p1_2)])) fun u_29 =>
 jn (fun (x27_30 : Value) (w_31 : World) (X_32 : XS) =>
 rdW Tryz.prog X_32 w_31 (pickN x14_19 x27_30 (B false)) fun x28_34 =>
 (condW x28_34
 ((rdW Tryz.prog X_32 w_31 (nilN p0) fun x31_37 =>
 rdV Tryz.prog X_32 w_31 (fld 37 3 5 1 x31_37) fun x32_38 =>
 rdV Tryz.prog X_32 w_31 (ld1 35 x32_38) fun x33_39 =>
 rdV Tryz.prog X_32 w_31 (ixS 35 9 x33_39 v_11) fun x35_40 =>
 rdV Tryz.prog X_32 w_31 (ldA 98 9 x35_40) fun x36_41 =>
 eV Tryz.prog R X_32 w_31 true (bsS 35 98 9 1 #[(0, x36_41)]) fun x37_42 w_43 X_44 =>
 eV Tryz.prog R X_44 w_43 true (apS 35 98 9 104 35 v_12 x37_42) fun x38_45 w_46 X_47 =>
 (rdV Tryz.prog X_47 w_46 (binOp .add 3 v_11 (I 1)) fun x40_48 =>
 (nx2 J_6 n_7 x40_48 x38_45 w_46 X_47))))
 (((eC Tryz.prog R X_32 w_31 true 69 #[(.agg #[(I p1_0), (I p1_1), (I p1_2), (I p1_3), (I p1_4), (I p1_5), p1_6, p1_7])] fun x43_50 w_51 X_52 =>
 un (cellOf x43_50 0) fun u_53 =>
 un (cellOf x43_50 1) fun u_54 =>
 un (cellOf x43_50 2) fun u_55 =>
 un (cellOf x43_50 3) fun u_56 =>
 un (cellOf x43_50 4) fun u_57 =>
 un (cellOf x43_50 5) fun u_58 =>
 un (cellOf x43_50 6) fun u_59 =>
 un (cellOf x43_50 7) fun u_60 =>
 rdV Tryz.prog X_52 w_51 (bld 98 #[u_53, u_54, u_55, u_56, u_57, u_58, u_59, u_60, (I p2)] #[(0, x43_50), (1, (I p2))]) fun x45_61 =>
 eV Tryz.prog R X_52 w_51 true (bsS 35 98 9 1 #[(0, x45_61)]) fun x46_62 w_63 X_64 =>
 eV Tryz.prog R X_64 w_63 true (apS 35 98 9 104 35 v_12 x46_62) fun x47_65 w_66 X_67 =>
 (rdW Tryz.prog X_67 w_66 (nilN p0) fun x51_68 =>
 rdV Tryz.prog X_67 w_66 (fld 37 3 5 1 x51_68) fun x52_69 =>
 rdV Tryz.prog X_67 w_66 (ld1 35 x52_69) fun x53_70 =>
 rdV Tryz.prog X_67 w_66 (Instr.sliceAt 35 x53_70 (some v_11) none none) fun x55_71 =>
 eV Tryz.prog R X_67 w_66 true (apS 35 98 9 104 35 x47_65 x55_71) fun x56_72 w_73 X_74 =>
 rdW Tryz.prog X_74 w_73 (nilN p0) fun x57_75 =>
 rdV Tryz.prog X_74 w_73 (fld 37 3 5 1 x57_75) fun x58_76 =>
 eU Tryz.prog R X_74 w_73 true (st1 35 1 x58_76 x56_72) fun _ w_77 X_78 =>
 fin R X_78 w_77 (Value.tuple #[]))))))) fun k_33 =>
 (gE x14_19 true (eC Tryz.prog R X_10 w_9 true 68 #[x24_28, u_29] k_33) (k_33 undef w_9 X_10)))))
theorem ok_raceref18_Tail_put {R : Ending → World → Prop} {w0 : World} {p0 : Value} {p1_0 p1_1 p1_2 p1_3 p1_4 p1_5 : Int} {p1_6 p1_7 : Value} {p2 : Int} (h : vc_raceref18_Tail_put R w0 (old w0) p0 p1_0 p1_1 p1_2 p1_3 p1_4 p1_5 p1_6 p1_7 p2) : Calls Tryz.prog 32 #[p0, (.agg #[(I p1_0), (I p1_1), (I p1_2), (I p1_3), (I p1_4), (I p1_5), p1_6, p1_7]), (I p2)] w0 R :=
  calls_of_vc (pl := pl_raceref18_Tail_put) Tryz.func32 (by kernel_rfl) (by kernel_rfl) h
noncomputable def pl_raceref18_Tail_decides : Plan := ⟨75, [(3, (Tryz.prog.cellsOf 51)), (4, (Tryz.prog.cellsOf 59)), (6, (Tryz.prog.cellsOf 98))], [10, 49, 53, 54, 64, 66, 68, 70, 71], [0, 1, 5, 7, 8, 14, 29, 34, 58], [52, 55, 56, 57], [7, 8]⟩
def vc_raceref18_Tail_decides (R : Ending → World → Prop) (w0 : World) (X0 : XS) (p0 : Value) (_p1_0 p1_1 p1_2 p1_3 p1_4 p1_5 p1_6 _p1_7 _p1_8 _p1_9 : Int) (p1_10 : Bool) (_p1_11 : Int) (_p1_12 : Nat) (_p1_13 _p1_14 _p1_15 _p1_16 : Value) (_p1_17 _p1_18 : Int) (_p1_19 _p1_20 : Nat) (_p1_21 _p1_22 _p1_23 _p1_24 _p1_25 _p1_26 : Int) (_p1_27 _p1_28 : Value) : Prop :=
 (eC Tryz.prog R X0 w0 true 66 #[p0, (.agg #[(I p1_1), (I p1_2), (I p1_3)])] fun x12_3 w_4 X_5 =>
 (rdV Tryz.prog X_5 w_4 (binOp .lss 3 x12_3 (I 0)) fun x14_8 =>
 (condW x14_8
 (rdV Tryz.prog X_5 w_4 (bld 59 #[(I 0), (I 0), (I 0), (I 0), (I 0), (I 0), (I 0), (I 0), (I 0), (.slice none 0 0), (I 0), (I 0), (I 0), (I 0)] #[]) fun x15_10 =>
 un (Value.agg (Value.cells x15_10)) fun u_11 =>
 chk (List.length (Array.toList (Value.cells x15_10)) == 14) (chk (List.all (Array.toList (Value.cells x15_10)) one) (un (subOf u_11 0 14) fun u_12 =>
 chk (List.all [u_11] isA) (fin R X_5 w_4 u_12))))
 ((rdW Tryz.prog X_5 w_4 (nilN p0) fun x17_14 =>
 rdV Tryz.prog X_5 w_4 (fld 37 3 5 1 x17_14) fun x18_15 =>
 rdV Tryz.prog X_5 w_4 (ld1 35 x18_15) fun x19_16 =>
 rdV Tryz.prog X_5 w_4 (ixS 35 9 x19_16 x12_3) fun x21_17 =>
 rdV Tryz.prog X_5 w_4 (ldA 98 9 x21_17) fun x22_18 =>
 un (Value.agg (Value.cells x22_18)) fun u_19 =>
 chk (List.length (Array.toList (Value.cells x22_18)) == 9) (chk (List.all (Array.toList (Value.cells x22_18)) one) ((((lp2 X_5 w_4 (I 0) (.slice none 0 0) 8 7 fun J_24 n_25 v_29 v_30 w_27 X_28 =>
 rdW Tryz.prog X_28 w_27 (nilN p0) fun x25_33 =>
 rdV Tryz.prog X_28 w_27 (fld 37 3 5 1 x25_33) fun x26_34 =>
 rdV Tryz.prog X_28 w_27 (ld1 35 x26_34) fun x27_35 =>
 rdV Tryz.prog X_28 w_27 (lnS 35 3 x27_35) fun x28_36 =>
 rdV Tryz.prog X_28 w_27 (binOp .lss 3 v_29 x28_36) fun x29_37 =>
 (condW x29_37
 (((jn (fun (y7_53 : Value) (w_54 : World) (X_55 : XS) =>
 (rdV Tryz.prog X_55 w_54 (binOp .add 3 v_29 (I 1)) fun x31_57 =>
 nx2 J_24 n_25 x31_57 y7_53 w_54 X_55)) fun k_56 =>
 rdV Tryz.prog X_28 w_27 (binS .neq 3 (.tmp 32) (.tmp 33) v_29 x12_3) fun x34_41 =>
 (condW x34_41
 (rdW Tryz.prog X_28 w_27 (nilN p0) fun x37_42 =>
 rdV Tryz.prog X_28 w_27 (fld 37 3 5 1 x37_42) fun x38_43 =>
 rdV Tryz.prog X_28 w_27 (ld1 35 x38_43) fun x39_44 =>
 rdV Tryz.prog X_28 w_27 (ixS 35 9 x39_44 v_29) fun x41_45 =>
 rdV Tryz.prog X_28 w_27 (ldA 98 9 x41_45) fun x42_46 =>
 eV Tryz.prog R X_28 w_27 true (bsS 35 98 9 1 #[(0, x42_46)]) fun x43_47 w_48 X_49 =>
 eV Tryz.prog R X_49 w_48 true (apS 35 98 9 104 35 v_30 x43_47) fun x44_50 w_51 X_52 =>
 (k_56 x44_50 w_51 X_52))
 (k_56 v_30 w_27 X_28)))))
 (((rdW Tryz.prog X_28 w_27 (nilN p0) fun x47_59 =>
 rdV Tryz.prog X_28 w_27 (fld 37 3 5 1 x47_59) fun x48_60 =>
 eU Tryz.prog R X_28 w_27 true (st1 35 1 x48_60 v_30) fun _ w_61 X_62 =>
 (rdV Tryz.prog X_62 w_61 (Op.unary UnOp.not (B p1_10)) fun x51_65 =>
 chk (isA u_19) (un (cellOf u_19 7) fun u_66 =>
 un (gSel x51_65 false u_66) fun u_67 =>
 grdW Tryz.prog X_62 w_61 x51_65 false (vS (lnS 42 3 u_67)) fun x56_68 =>
 grdW Tryz.prog X_62 w_61 x51_65 false (vS (binS .eql 3 (.tmp 56) (.const (I 0)) x56_68 (I 0))) fun x57_69 =>
 rdW Tryz.prog X_62 w_61 (pickN x51_65 (B true) x57_69) fun x58_70 =>
 (condW x58_70
 (rdV Tryz.prog X_62 w_61 (bld 59 #[(I 0), (I 0), (I 0), (I 0), (I 0), (I 0), (I 0), (I 0), (I 0), (.slice none 0 0), (I 0), (I 0), (I 0), (I 0)] #[]) fun x59_72 =>
 un (Value.agg (Value.cells x59_72)) fun u_73 =>
 chk (List.length (Array.toList (Value.cells x59_72)) == 14) (chk (List.all (Array.toList (Value.cells x59_72)) one) (un (subOf u_73 0 14) fun u_74 =>
 chk (List.all [u_73] isA) (fin R X_62 w_61 u_74))))
 ((rdW Tryz.prog X_62 w_61 (nilN p0) fun x61_76 =>
 rdV Tryz.prog X_62 w_61 (fld 37 0 0 1 x61_76) fun x62_77 =>
 rdV Tryz.prog X_62 w_61 (ld1 3 x62_77) fun x63_78 =>
 chk (isA u_19) (un (cellOf u_19 8) fun u_79 =>
 rdV Tryz.prog X_62 w_61 (bld 54 #[x63_78, u_79, (I p1_1), (I p1_2), (I p1_3), (I p1_4), (I p1_5), (I p1_6), u_66] #[(0, x63_78), (1, u_79), (2, (.agg #[(I p1_1), (I p1_2), (I p1_3)])), (3, (.agg #[(I p1_4), (I p1_5), (I p1_6)])), (4, u_66)]) fun x73_80 =>
 un (cellOf x73_80 0) fun u_81 =>
 un (cellOf x73_80 1) fun u_82 =>
 un (cellOf x73_80 2) fun u_83 =>
 un (cellOf x73_80 3) fun u_84 =>
 un (cellOf x73_80 4) fun u_85 =>
 un (cellOf x73_80 5) fun u_86 =>
 un (cellOf x73_80 6) fun u_87 =>
 un (cellOf x73_80 7) fun u_88 =>
 un (cellOf x73_80 8) fun u_89 =>
 rdV Tryz.prog X_62 w_61 (bld 59 #[(I 1), u_81, u_82, u_83, u_84, u_85, u_86, u_87, u_88, u_89, (I 0), (I 0), (I 0), (I 0)] #[(0, (I 1)), (1, x73_80)]) fun x74_90 =>
 un (Value.agg (Value.cells x74_90)) fun u_91 =>
 chk (List.length (Array.toList (Value.cells x74_90)) == 14) (chk (List.all (Array.toList (Value.cells x74_90)) one) (un (subOf u_91 0 14) fun u_92 =>
 chk (List.all [u_91] isA) (fin R X_62 w_61 u_92)))))))))))))))))))))))
theorem ok_raceref18_Tail_decides {R : Ending → World → Prop} {w0 : World} {p0 : Value} {p1_0 p1_1 p1_2 p1_3 p1_4 p1_5 p1_6 p1_7 p1_8 p1_9 : Int} {p1_10 : Bool} {p1_11 : Int} {p1_12 : Nat} {p1_13 p1_14 p1_15 p1_16 : Value} {p1_17 p1_18 : Int} {p1_19 p1_20 : Nat} {p1_21 p1_22 p1_23 p1_24 p1_25 p1_26 : Int} {p1_27 p1_28 : Value} (h : vc_raceref18_Tail_decides R w0 (old w0) p0 p1_0 p1_1 p1_2 p1_3 p1_4 p1_5 p1_6 p1_7 p1_8 p1_9 p1_10 p1_11 p1_12 p1_13 p1_14 p1_15 p1_16 p1_17 p1_18 p1_19 p1_20 p1_21 p1_22 p1_23 p1_24 p1_25 p1_26 p1_27 p1_28) : Calls Tryz.prog 33 #[p0, (.agg #[(I p1_0), (I p1_1), (I p1_2), (I p1_3), (I p1_4), (I p1_5), (I p1_6), (I p1_7), (I p1_8), (I p1_9), (B p1_10), (I p1_11), (.float .f64 p1_12), p1_13, p1_14, p1_15, p1_16, (I p1_17), (I p1_18), (.float .f64 p1_19), (.float .f64 p1_20), (I p1_21), (I p1_22), (I p1_23), (I p1_24), (I p1_25), (I p1_26), p1_27, p1_28])] w0 R :=
  calls_of_vc (pl := pl_raceref18_Tail_decides) Tryz.func33 (by kernel_rfl) (by kernel_rfl) h
noncomputable def pl_raceref15_Texts : Plan := ⟨37, [], [], [0, 1, 4, 5, 6, 7, 8, 12, 20], [], [6, 7, 8]⟩
def vc_raceref15_Texts (R : Ending → World → Prop) (w0 : World) (X0 : XS) (p0 : Value) (p1 : Nat) : Prop :=
 (((lp3 X0 w0 (I 0) (.slice none 0 0) (.slice none 0 0) 8 7 6 fun J_6 n_7 v_11 v_12 v_13 w_9 X_10 =>
 rdV Tryz.prog X_10 w_9 (lnS 41 3 p0) fun x11_16 =>
 rdV Tryz.prog X_10 w_9 (binOp .lss 3 v_11 x11_16) fun x12_17 =>
 (condW x12_17
 (((jn (fun (y6_42 y7_43 : Value) (w_44 : World) (X_45 : XS) =>
 (rdV Tryz.prog X_45 w_44 (binOp .add 3 v_11 (I 1)) fun x14_47 =>
 nx3 J_6 n_7 x14_47 y7_43 y6_42 w_44 X_45)) fun k_46 =>
 rdV Tryz.prog X_10 w_9 (ixS 41 1 p0 v_11) fun x17_21 =>
 rdV Tryz.prog X_10 w_9 (ld1 9 x17_21) fun x18_22 =>
 eC Tryz.prog R X_10 w_9 true 70 #[x18_22, (.float .f64 p1)] fun x20_23 w_24 X_25 =>
 (condW x20_23
 (rdV Tryz.prog X_25 w_24 (ixS 41 1 p0 v_11) fun x24_26 =>
 rdV Tryz.prog X_25 w_24 (ld1 9 x24_26) fun x25_27 =>
 eV Tryz.prog R X_25 w_24 true (bsS 41 9 1 1 #[(0, x25_27)]) fun x26_28 w_29 X_30 =>
 eV Tryz.prog R X_30 w_29 true (apS 41 9 1 16 41 v_13 x26_28) fun x27_31 w_32 X_33 =>
 (k_46 x27_31 v_12 w_32 X_33))
 (rdV Tryz.prog X_25 w_24 (ixS 41 1 p0 v_11) fun x31_34 =>
 rdV Tryz.prog X_25 w_24 (ld1 9 x31_34) fun x32_35 =>
 eV Tryz.prog R X_25 w_24 true (bsS 41 9 1 1 #[(0, x32_35)]) fun x33_36 w_37 X_38 =>
 eV Tryz.prog R X_38 w_37 true (apS 41 9 1 16 41 v_12 x33_36) fun x34_39 w_40 X_41 =>
 (k_46 v_13 x34_39 w_40 X_41))))))
 (fin R X_10 w_9 (Value.tuple #[v_13, v_12]))))))
theorem ok_raceref15_Texts {R : Ending → World → Prop} {w0 : World} {p0 : Value} {p1 : Nat} (h : vc_raceref15_Texts R w0 (old w0) p0 p1) : Calls Tryz.prog 34 #[p0, (.float .f64 p1)] w0 R :=
  calls_of_vc (pl := pl_raceref15_Texts) Tryz.func34 (by kernel_rfl) (by kernel_rfl) h
noncomputable def pl_raceref15_Halve : Plan := ⟨38, [], [], [0, 1, 4, 5, 6, 7, 8, 12, 21], [], [6, 7, 8]⟩
def vc_raceref15_Halve (R : Ending → World → Prop) (w0 : World) (X0 : XS) (p0 : Value) (p1 : Nat) : Prop :=
 (((lp3 X0 w0 (I 0) (.slice none 0 0) (.slice none 0 0) 8 7 6 fun J_6 n_7 v_11 v_12 v_13 w_9 X_10 =>
 rdV Tryz.prog X_10 w_9 (lnS 42 3 p0) fun x11_16 =>
 rdV Tryz.prog X_10 w_9 (binOp .lss 3 v_11 x11_16) fun x12_17 =>
 (condW x12_17
 (((jn (fun (y6_43 y7_44 : Value) (w_45 : World) (X_46 : XS) =>
 (rdV Tryz.prog X_46 w_45 (binOp .add 3 v_11 (I 1)) fun x14_48 =>
 nx3 J_6 n_7 x14_48 y7_44 y6_43 w_45 X_46)) fun k_47 =>
 rdV Tryz.prog X_10 w_9 (ixS 42 4 p0 v_11) fun x17_21 =>
 rdV Tryz.prog X_10 w_9 (fld 66 0 0 1 x17_21) fun x18_22 =>
 rdV Tryz.prog X_10 w_9 (ld1 9 x18_22) fun x19_23 =>
 eC Tryz.prog R X_10 w_9 true 70 #[x19_23, (.float .f64 p1)] fun x21_24 w_25 X_26 =>
 (condW x21_24
 (rdV Tryz.prog X_26 w_25 (ixS 42 4 p0 v_11) fun x25_27 =>
 rdV Tryz.prog X_26 w_25 (ldA 66 4 x25_27) fun x26_28 =>
 eV Tryz.prog R X_26 w_25 true (bsS 42 66 4 1 #[(0, x26_28)]) fun x27_29 w_30 X_31 =>
 eV Tryz.prog R X_31 w_30 true (apS 42 66 4 48 42 v_13 x27_29) fun x28_32 w_33 X_34 =>
 (k_47 x28_32 v_12 w_33 X_34))
 (rdV Tryz.prog X_26 w_25 (ixS 42 4 p0 v_11) fun x32_35 =>
 rdV Tryz.prog X_26 w_25 (ldA 66 4 x32_35) fun x33_36 =>
 eV Tryz.prog R X_26 w_25 true (bsS 42 66 4 1 #[(0, x33_36)]) fun x34_37 w_38 X_39 =>
 eV Tryz.prog R X_39 w_38 true (apS 42 66 4 48 42 v_12 x34_37) fun x35_40 w_41 X_42 =>
 (k_47 v_13 x35_40 w_41 X_42))))))
 (fin R X_10 w_9 (Value.tuple #[v_13, v_12]))))))
theorem ok_raceref15_Halve {R : Ending → World → Prop} {w0 : World} {p0 : Value} {p1 : Nat} (h : vc_raceref15_Halve R w0 (old w0) p0 p1) : Calls Tryz.prog 35 #[p0, (.float .f64 p1)] w0 R :=
  calls_of_vc (pl := pl_raceref15_Halve) Tryz.func35 (by kernel_rfl) (by kernel_rfl) h
noncomputable def pl_raceref18_Tail_Resolved : Plan := ⟨38, [(2, (Tryz.prog.cellsOf 34)), (3, (Tryz.prog.cellsOf 34)), (5, (Tryz.prog.cellsOf 34))], [], [0, 4, 17, 35], [], [3, 4]⟩
def vc_raceref18_Tail_Resolved (R : Ending → World → Prop) (w0 : World) (X0 : XS) (p0 : Value) : Prop :=
 (rdW Tryz.prog X0 w0 (nilN p0) fun x8_3 =>
 rdV Tryz.prog X0 w0 (fld 37 2 2 3 x8_3) fun x9_4 =>
 rdV Tryz.prog X0 w0 (ldA 34 3 x9_4) fun x10_5 =>
 un (Value.agg (Value.cells x10_5)) fun u_6 =>
 chk (List.length (Array.toList (Value.cells x10_5)) == 3) (chk (List.all (Array.toList (Value.cells x10_5)) one) (((lp2 X0 w0 (I 0) u_6 4 3 fun J_10 n_11 v_15 v_16 w_13 X_14 =>
 rdW Tryz.prog X_14 w_13 (nilN p0) fun x13_19 =>
 rdV Tryz.prog X_14 w_13 (fld 37 3 5 1 x13_19) fun x14_20 =>
 rdV Tryz.prog X_14 w_13 (ld1 35 x14_20) fun x15_21 =>
 rdV Tryz.prog X_14 w_13 (lnS 35 3 x15_21) fun x16_22 =>
 rdV Tryz.prog X_14 w_13 (binOp .lss 3 v_15 x16_22) fun x17_23 =>
 (condW x17_23
 (((jn (fun (y3_47 : Value) (w_48 : World) (X_49 : XS) =>
 (rdV Tryz.prog X_49 w_48 (binOp .add 3 v_15 (I 1)) fun x19_51 =>
 nx2 J_10 n_11 x19_51 y3_47 w_48 X_49)) fun k_50 =>
 rdW Tryz.prog X_14 w_13 (nilN p0) fun x22_27 =>
 rdV Tryz.prog X_14 w_13 (fld 37 3 5 1 x22_27) fun x23_28 =>
 rdV Tryz.prog X_14 w_13 (ld1 35 x23_28) fun x24_29 =>
 rdV Tryz.prog X_14 w_13 (ixS 35 9 x24_29 v_15) fun x26_30 =>
 rdV Tryz.prog X_14 w_13 (fld 98 0 0 8 x26_30) fun x27_31 =>
 rdV Tryz.prog X_14 w_13 (fld 87 1 3 3 x27_31) fun x28_32 =>
 rdV Tryz.prog X_14 w_13 (ldA 34 3 x28_32) fun x29_33 =>
 eC Tryz.prog R X_14 w_13 true 71 #[x29_33] fun x30_34 w_35 X_36 =>
 rdV Tryz.prog X_36 w_35 (Instr.extract x30_34 0) fun x31_37 =>
 rdV Tryz.prog X_36 w_35 (Instr.extract x30_34 1) fun _ =>
 un (Value.agg (Value.cells x31_37)) fun u_39 =>
 chk (List.length (Array.toList (Value.cells x31_37)) == 3) (chk (List.all (Array.toList (Value.cells x31_37)) one) ((chk (isA u_39) (chk (isA v_16) (un (subOf u_39 0 3) fun u_41 =>
 un (subOf v_16 0 3) fun u_42 =>
 eC Tryz.prog R X_36 w_35 true 67 #[u_41, u_42] fun x35_43 w_44 X_45 =>
 (condW x35_43
 (chk (isA u_39) (chk (isA v_16) (un (Value.agg (Value.cells u_41)) fun u_46 =>
 chk (List.length (Array.toList (Value.cells u_41)) == 3) (chk (List.all (Array.toList (Value.cells u_41)) one) (k_50 u_46 w_44 X_45)))))
 (k_50 v_16 w_44 X_45))))))))))
 (((chk (isA v_16) (un (subOf v_16 0 3) fun u_53 =>
 un (Value.agg (Value.cells u_53)) fun u_54 =>
 chk (List.length (Array.toList (Value.cells u_53)) == 3) (chk (List.all (Array.toList (Value.cells u_53)) one) (un (subOf u_54 0 3) fun u_55 =>
 chk (List.all [u_54] isA) (fin R X_14 w_13 u_55)))))))))))))
theorem ok_raceref18_Tail_Resolved {R : Ending → World → Prop} {w0 : World} {p0 : Value} (h : vc_raceref18_Tail_Resolved R w0 (old w0) p0) : Calls Tryz.prog 36 #[p0] w0 R :=
  calls_of_vc (pl := pl_raceref18_Tail_Resolved) Tryz.func36 (by kernel_rfl) (by kernel_rfl) h
noncomputable def pl_raceref_Bits : Plan := ⟨10, [], [], [0, 1, 4], [], []⟩
def vc_raceref_Bits (R : Ending → World → Prop) (w0 : World) (X0 : XS) (p0 p1 : Nat) : Prop :=
 (eC Tryz.prog R X0 w0 true 72 #[(.float .f64 p0)] fun x6_3 w_4 X_5 =>
 eC Tryz.prog R X_5 w_4 true 72 #[(.float .f64 p1)] fun x8_6 w_7 X_8 =>
 rdV Tryz.prog X_8 w_7 (binS .eql 129 (.tmp 6) (.tmp 8) x6_3 x8_6) fun x9_9 =>
 (fin R X_8 w_7 x9_9))
theorem ok_raceref_Bits {R : Ending → World → Prop} {w0 : World} {p0 p1 : Nat} (h : vc_raceref_Bits R w0 (old w0) p0 p1) : Calls Tryz.prog 37 #[(.float .f64 p0), (.float .f64 p1)] w0 R :=
  calls_of_vc (pl := pl_raceref_Bits) Tryz.func37 (by kernel_rfl) (by kernel_rfl) h
noncomputable def pl_raceref_Texts : Plan := ⟨26, [], [], [0, 1, 4, 5, 10, 14, 25], [], [5]⟩
def vc_raceref_Texts (R : Ending → World → Prop) (w0 : World) (X0 : XS) (p0 p1 : Value) : Prop :=
 (rdV Tryz.prog X0 w0 (lnS 41 3 p0) fun x7_4 =>
 rdV Tryz.prog X0 w0 (lnS 41 3 p1) fun x9_5 =>
 rdV Tryz.prog X0 w0 (binS .neq 3 (.tmp 7) (.tmp 9) x7_4 x9_5) fun x10_6 =>
 (condW x10_6
 (fin R X0 w0 (B false))
 (((lp1 X0 w0 (I 0) 5 fun J_11 n_12 v_16 w_14 X_15 =>
 rdV Tryz.prog X_15 w_14 (lnS 41 3 p0) fun x13_19 =>
 rdV Tryz.prog X_15 w_14 (binOp .lss 3 v_16 x13_19) fun x14_20 =>
 (condW x14_20
 ((rdV Tryz.prog X_15 w_14 (ixS 41 1 p0 v_16) fun x19_24 =>
 rdV Tryz.prog X_15 w_14 (ld1 9 x19_24) fun x20_25 =>
 rdV Tryz.prog X_15 w_14 (ixS 41 1 p1 v_16) fun x23_26 =>
 rdV Tryz.prog X_15 w_14 (ld1 9 x23_26) fun x24_27 =>
 rdV Tryz.prog X_15 w_14 (binS .neq 9 (.tmp 20) (.tmp 24) x20_25 x24_27) fun x25_28 =>
 (condW x25_28
 (fin R X_15 w_14 (B false))
 (((rdV Tryz.prog X_15 w_14 (binOp .add 3 v_16 (I 1)) fun x16_30 =>
 nx1 J_11 n_12 x16_30 w_14 X_15))))))
 (fin R X_15 w_14 (B true))))))))
theorem ok_raceref_Texts {R : Ending → World → Prop} {w0 : World} {p0 p1 : Value} (h : vc_raceref_Texts R w0 (old w0) p0 p1) : Calls Tryz.prog 38 #[p0, p1] w0 R :=
  calls_of_vc (pl := pl_raceref_Texts) Tryz.func38 (by kernel_rfl) (by kernel_rfl) h
noncomputable def pl_raceref_Writes : Plan := ⟨42, [], [], [0, 1, 4, 5, 10, 14, 41], [28, 29, 30, 31, 32, 33, 34, 35, 36, 37, 38, 39, 40], [5]⟩
def vc_raceref_Writes (R : Ending → World → Prop) (w0 : World) (X0 : XS) (p0 p1 : Value) : Prop :=
 (rdV Tryz.prog X0 w0 (lnS 42 3 p0) fun x7_4 =>
 rdV Tryz.prog X0 w0 (lnS 42 3 p1) fun x9_5 =>
 rdV Tryz.prog X0 w0 (binS .neq 3 (.tmp 7) (.tmp 9) x7_4 x9_5) fun x10_6 =>
 (condW x10_6
 (fin R X0 w0 (B false))
 (((lp1 X0 w0 (I 0) 5 fun J_11 n_12 v_16 w_14 X_15 =>
 rdV Tryz.prog X_15 w_14 (lnS 42 3 p0) fun x13_19 =>
 rdV Tryz.prog X_15 w_14 (binOp .lss 3 v_16 x13_19) fun x14_20 =>
 (condW x14_20
 ((rdV Tryz.prog X_15 w_14 (ixS 42 4 p0 v_16) fun x19_24 =>
 rdV Tryz.prog X_15 w_14 (fld 66 0 0 1 x19_24) fun x20_25 =>
 rdV Tryz.prog X_15 w_14 (ld1 9 x20_25) fun x21_26 =>
 rdV Tryz.prog X_15 w_14 (ixS 42 4 p1 v_16) fun x24_27 =>
 rdV Tryz.prog X_15 w_14 (fld 66 0 0 1 x24_27) fun x25_28 =>
 rdV Tryz.prog X_15 w_14 (ld1 9 x25_28) fun x26_29 =>
 rdV Tryz.prog X_15 w_14 (binS .neq 9 (.tmp 21) (.tmp 26) x21_26 x26_29) fun x27_30 =>
 un (gSel x27_30 false p0) fun u_31 =>
 un (gSel x27_30 false v_16) fun u_32 =>
 grdW Tryz.prog X_15 w_14 x27_30 false (vS (ixS 42 4 u_31 u_32)) fun x31_33 =>
 grdW Tryz.prog X_15 w_14 x27_30 false (vS (fld 66 1 1 3 x31_33)) fun x32_34 =>
 grdW Tryz.prog X_15 w_14 x27_30 false (vS (ldA 64 3 x32_34)) fun x33_35 =>
 un (gSel x27_30 false p1) fun u_36 =>
 grdW Tryz.prog X_15 w_14 x27_30 false (vS (ixS 42 4 u_36 u_32)) fun x36_37 =>
 grdW Tryz.prog X_15 w_14 x27_30 false (vS (fld 66 1 1 3 x36_37)) fun x37_38 =>
 grdW Tryz.prog X_15 w_14 x27_30 false (vS (ldA 64 3 x37_38)) fun x38_39 =>
 jn (fun (x39_40 : Value) (w_41 : World) (X_42 : XS) =>
 grdW Tryz.prog X_42 w_41 x27_30 false (vS (Op.unary UnOp.not x39_40)) fun x40_44 =>
 rdW Tryz.prog X_42 w_41 (pickN x27_30 (B true) x40_44) fun x41_45 =>
 (condW x41_45
 (fin R X_42 w_41 (B false))
 (((rdV Tryz.prog X_42 w_41 (binOp .add 3 v_16 (I 1)) fun x16_47 =>
 nx1 J_11 n_12 x16_47 w_41 X_42))))) fun k_43 =>
 (gE x27_30 false (eC Tryz.prog R X_15 w_14 true 73 #[x33_35, x38_39] k_43) (k_43 undef w_14 X_15))))
 (fin R X_15 w_14 (B true))))))))
theorem ok_raceref_Writes {R : Ending → World → Prop} {w0 : World} {p0 p1 : Value} (h : vc_raceref_Writes R w0 (old w0) p0 p1) : Calls Tryz.prog 39 #[p0, p1] w0 R :=
  calls_of_vc (pl := pl_raceref_Writes) Tryz.func39 (by kernel_rfl) (by kernel_rfl) h
noncomputable def pl_raceref_Ints : Plan := ⟨26, [], [], [0, 1, 4, 5, 10, 14, 25], [], [5]⟩
def vc_raceref_Ints (R : Ending → World → Prop) (w0 : World) (X0 : XS) (p0 p1 : Value) : Prop :=
 (rdV Tryz.prog X0 w0 (lnS 23 3 p0) fun x7_4 =>
 rdV Tryz.prog X0 w0 (lnS 23 3 p1) fun x9_5 =>
 rdV Tryz.prog X0 w0 (binS .neq 3 (.tmp 7) (.tmp 9) x7_4 x9_5) fun x10_6 =>
 (condW x10_6
 (fin R X0 w0 (B false))
 (((lp1 X0 w0 (I 0) 5 fun J_11 n_12 v_16 w_14 X_15 =>
 rdV Tryz.prog X_15 w_14 (lnS 23 3 p0) fun x13_19 =>
 rdV Tryz.prog X_15 w_14 (binOp .lss 3 v_16 x13_19) fun x14_20 =>
 (condW x14_20
 ((rdV Tryz.prog X_15 w_14 (ixS 23 1 p0 v_16) fun x19_24 =>
 rdV Tryz.prog X_15 w_14 (ld1 3 x19_24) fun x20_25 =>
 rdV Tryz.prog X_15 w_14 (ixS 23 1 p1 v_16) fun x23_26 =>
 rdV Tryz.prog X_15 w_14 (ld1 3 x23_26) fun x24_27 =>
 rdV Tryz.prog X_15 w_14 (binS .neq 3 (.tmp 20) (.tmp 24) x20_25 x24_27) fun x25_28 =>
 (condW x25_28
 (fin R X_15 w_14 (B false))
 (((rdV Tryz.prog X_15 w_14 (binOp .add 3 v_16 (I 1)) fun x16_30 =>
 nx1 J_11 n_12 x16_30 w_14 X_15))))))
 (fin R X_15 w_14 (B true))))))))
theorem ok_raceref_Ints {R : Ending → World → Prop} {w0 : World} {p0 p1 : Value} (h : vc_raceref_Ints R w0 (old w0) p0 p1) : Calls Tryz.prog 40 #[p0, p1] w0 R :=
  calls_of_vc (pl := pl_raceref_Ints) Tryz.func40 (by kernel_rfl) (by kernel_rfl) h
noncomputable def pl_raceref_Pairs : Plan := ⟨42, [], [], [0, 1, 4, 5, 10, 14, 41], [28, 29, 30, 31, 32, 33, 34, 35, 36, 37, 38, 39, 40], [5]⟩
def vc_raceref_Pairs (R : Ending → World → Prop) (w0 : World) (X0 : XS) (p0 p1 : Value) : Prop :=
 (rdV Tryz.prog X0 w0 (lnS 43 3 p0) fun x7_4 =>
 rdV Tryz.prog X0 w0 (lnS 43 3 p1) fun x9_5 =>
 rdV Tryz.prog X0 w0 (binS .neq 3 (.tmp 7) (.tmp 9) x7_4 x9_5) fun x10_6 =>
 (condW x10_6
 (fin R X0 w0 (B false))
 (((lp1 X0 w0 (I 0) 5 fun J_11 n_12 v_16 w_14 X_15 =>
 rdV Tryz.prog X_15 w_14 (lnS 43 3 p0) fun x13_19 =>
 rdV Tryz.prog X_15 w_14 (binOp .lss 3 v_16 x13_19) fun x14_20 =>
 (condW x14_20
 ((rdV Tryz.prog X_15 w_14 (ixS 43 4 p0 v_16) fun x19_24 =>
 rdV Tryz.prog X_15 w_14 (fld 82 0 0 1 x19_24) fun x20_25 =>
 rdV Tryz.prog X_15 w_14 (ld1 9 x20_25) fun x21_26 =>
 rdV Tryz.prog X_15 w_14 (ixS 43 4 p1 v_16) fun x24_27 =>
 rdV Tryz.prog X_15 w_14 (fld 82 0 0 1 x24_27) fun x25_28 =>
 rdV Tryz.prog X_15 w_14 (ld1 9 x25_28) fun x26_29 =>
 rdV Tryz.prog X_15 w_14 (binS .neq 9 (.tmp 21) (.tmp 26) x21_26 x26_29) fun x27_30 =>
 un (gSel x27_30 false p0) fun u_31 =>
 un (gSel x27_30 false v_16) fun u_32 =>
 grdW Tryz.prog X_15 w_14 x27_30 false (vS (ixS 43 4 u_31 u_32)) fun x31_33 =>
 grdW Tryz.prog X_15 w_14 x27_30 false (vS (fld 82 1 1 3 x31_33)) fun x32_34 =>
 grdW Tryz.prog X_15 w_14 x27_30 false (vS (ldA 64 3 x32_34)) fun x33_35 =>
 un (gSel x27_30 false p1) fun u_36 =>
 grdW Tryz.prog X_15 w_14 x27_30 false (vS (ixS 43 4 u_36 u_32)) fun x36_37 =>
 grdW Tryz.prog X_15 w_14 x27_30 false (vS (fld 82 1 1 3 x36_37)) fun x37_38 =>
 grdW Tryz.prog X_15 w_14 x27_30 false (vS (ldA 64 3 x37_38)) fun x38_39 =>
 jn (fun (x39_40 : Value) (w_41 : World) (X_42 : XS) =>
 grdW Tryz.prog X_42 w_41 x27_30 false (vS (Op.unary UnOp.not x39_40)) fun x40_44 =>
 rdW Tryz.prog X_42 w_41 (pickN x27_30 (B true) x40_44) fun x41_45 =>
 (condW x41_45
 (fin R X_42 w_41 (B false))
 (((rdV Tryz.prog X_42 w_41 (binOp .add 3 v_16 (I 1)) fun x16_47 =>
 nx1 J_11 n_12 x16_47 w_41 X_42))))) fun k_43 =>
 (gE x27_30 false (eC Tryz.prog R X_15 w_14 true 73 #[x33_35, x38_39] k_43) (k_43 undef w_14 X_15))))
 (fin R X_15 w_14 (B true))))))))
theorem ok_raceref_Pairs {R : Ending → World → Prop} {w0 : World} {p0 p1 : Value} (h : vc_raceref_Pairs R w0 (old w0) p0 p1) : Calls Tryz.prog 41 #[p0, p1] w0 R :=
  calls_of_vc (pl := pl_raceref_Pairs) Tryz.func41 (by kernel_rfl) (by kernel_rfl) h
noncomputable def pl_raceref_State : Plan := ⟨38, [(2, (Tryz.prog.cellsOf 49)), (3, (Tryz.prog.cellsOf 49))], [5, 7, 11, 13, 18, 20, 25, 27, 32, 34], [0, 1, 4], [10, 12, 14, 15, 17, 19, 21, 22, 24, 26, 28, 29, 31, 33, 35, 36], []⟩
def vc_raceref_State (R : Ending → World → Prop) (w0 : World) (X0 : XS) (p0_0 p0_1 : Int) (p0_2 p0_3 : Nat) (p0_4 p0_5 p0_6 p0_7 p0_8 p0_9 : Int) (p0_10 p0_11 : Value) (p1_0 p1_1 : Int) (p1_2 p1_3 : Nat) (p1_4 p1_5 p1_6 p1_7 p1_8 p1_9 : Int) (p1_10 p1_11 : Value) : Prop :=
 (eC Tryz.prog R X0 w0 true 74 #[(.agg #[(I p0_0), (I p0_1), (.float .f64 p0_2), (.float .f64 p0_3)]), (.agg #[(I p1_0), (I p1_1), (.float .f64 p1_2), (.float .f64 p1_3)])] fun x9_3 w_4 X_5 =>
 un (gSel x9_3 true (.agg #[(I p0_4), (I p0_5), (I p0_6)])) fun u_6 =>
 un (gSel x9_3 true (.agg #[(I p1_4), (I p1_5), (I p1_6)])) fun u_7 =>
 grdW Tryz.prog X_5 w_4 x9_3 true (vS (binS .eql 34 (.tmp 12) (.tmp 14) u_6 u_7)) fun x15_8 =>
 rdW Tryz.prog X_5 w_4 (pickN x9_3 x15_8 (B false)) fun x16_9 =>
 un (gSel x16_9 true (.agg #[(I p0_7), (I p0_8), (I p0_9)])) fun u_10 =>
 un (gSel x16_9 true (.agg #[(I p1_7), (I p1_8), (I p1_9)])) fun u_11 =>
 grdW Tryz.prog X_5 w_4 x16_9 true (vS (binS .eql 34 (.tmp 19) (.tmp 21) u_10 u_11)) fun x22_12 =>
 rdW Tryz.prog X_5 w_4 (pickN x16_9 x22_12 (B false)) fun x23_13 =>
 un (gSel x23_13 true p0_10) fun u_14 =>
 un (gSel x23_13 true p1_10) fun u_15 =>
 jn (fun (x29_16 : Value) (w_17 : World) (X_18 : XS) =>
 rdW Tryz.prog X_18 w_17 (pickN x23_13 x29_16 (B false)) fun x30_20 =>
 un (gSel x30_20 true p0_11) fun u_21 =>
 un (gSel x30_20 true p1_11) fun u_22 =>
 jn (fun (x36_23 : Value) (w_24 : World) (X_25 : XS) =>
 rdW Tryz.prog X_25 w_24 (pickN x30_20 x36_23 (B false)) fun x37_27 =>
 (fin R X_25 w_24 x37_27)) fun k_26 =>
 (gE x30_20 true (eC Tryz.prog R X_18 w_17 true 20 #[u_21, u_22] k_26) (k_26 undef w_17 X_18))) fun k_19 =>
 (gE x23_13 true (eC Tryz.prog R X_5 w_4 true 75 #[u_14, u_15] k_19) (k_19 undef w_4 X_5)))
theorem ok_raceref_State {R : Ending → World → Prop} {w0 : World} {p0_0 p0_1 : Int} {p0_2 p0_3 : Nat} {p0_4 p0_5 p0_6 p0_7 p0_8 p0_9 : Int} {p0_10 p0_11 : Value} {p1_0 p1_1 : Int} {p1_2 p1_3 : Nat} {p1_4 p1_5 p1_6 p1_7 p1_8 p1_9 : Int} {p1_10 p1_11 : Value} (h : vc_raceref_State R w0 (old w0) p0_0 p0_1 p0_2 p0_3 p0_4 p0_5 p0_6 p0_7 p0_8 p0_9 p0_10 p0_11 p1_0 p1_1 p1_2 p1_3 p1_4 p1_5 p1_6 p1_7 p1_8 p1_9 p1_10 p1_11) : Calls Tryz.prog 42 #[(.agg #[(I p0_0), (I p0_1), (.float .f64 p0_2), (.float .f64 p0_3), (I p0_4), (I p0_5), (I p0_6), (I p0_7), (I p0_8), (I p0_9), p0_10, p0_11]), (.agg #[(I p1_0), (I p1_1), (.float .f64 p1_2), (.float .f64 p1_3), (I p1_4), (I p1_5), (I p1_6), (I p1_7), (I p1_8), (I p1_9), p1_10, p1_11])] w0 R :=
  calls_of_vc (pl := pl_raceref_State) Tryz.func42 (by kernel_rfl) (by kernel_rfl) h
noncomputable def pl_raceref_Fragment : Plan := ⟨38, [(2, (Tryz.prog.cellsOf 54)), (3, (Tryz.prog.cellsOf 54))], [5, 7, 11, 13, 18, 20, 25, 27, 32, 34], [0, 1, 4], [10, 12, 14, 15, 17, 19, 21, 22, 24, 26, 28, 29, 31, 33, 35, 36], []⟩
def vc_raceref_Fragment (R : Ending → World → Prop) (w0 : World) (X0 : XS) (p0_0 p0_1 p0_2 p0_3 p0_4 p0_5 p0_6 p0_7 : Int) (p0_8 : Value) (p1_0 p1_1 p1_2 p1_3 p1_4 p1_5 p1_6 p1_7 : Int) (p1_8 : Value) : Prop :=
 (rdV Tryz.prog X0 w0 (binS .eql 3 (.tmp 6) (.tmp 8) (I p0_0) (I p1_0)) fun x9_3 =>
 un (gSel x9_3 true (I p0_1)) fun u_4 =>
 un (gSel x9_3 true (I p1_1)) fun u_5 =>
 grdW Tryz.prog X0 w0 x9_3 true (vS (binS .eql 3 (.tmp 12) (.tmp 14) u_4 u_5)) fun x15_6 =>
 rdW Tryz.prog X0 w0 (pickN x9_3 x15_6 (B false)) fun x16_7 =>
 un (gSel x16_7 true (.agg #[(I p0_2), (I p0_3), (I p0_4)])) fun u_8 =>
 un (gSel x16_7 true (.agg #[(I p1_2), (I p1_3), (I p1_4)])) fun u_9 =>
 grdW Tryz.prog X0 w0 x16_7 true (vS (binS .eql 39 (.tmp 19) (.tmp 21) u_8 u_9)) fun x22_10 =>
 rdW Tryz.prog X0 w0 (pickN x16_7 x22_10 (B false)) fun x23_11 =>
 un (gSel x23_11 true (.agg #[(I p0_5), (I p0_6), (I p0_7)])) fun u_12 =>
 un (gSel x23_11 true (.agg #[(I p1_5), (I p1_6), (I p1_7)])) fun u_13 =>
 grdW Tryz.prog X0 w0 x23_11 true (vS (binS .eql 34 (.tmp 26) (.tmp 28) u_12 u_13)) fun x29_14 =>
 rdW Tryz.prog X0 w0 (pickN x23_11 x29_14 (B false)) fun x30_15 =>
 un (gSel x30_15 true p0_8) fun u_16 =>
 un (gSel x30_15 true p1_8) fun u_17 =>
 jn (fun (x36_18 : Value) (w_19 : World) (X_20 : XS) =>
 rdW Tryz.prog X_20 w_19 (pickN x30_15 x36_18 (B false)) fun x37_22 =>
 (fin R X_20 w_19 x37_22)) fun k_21 =>
 (gE x30_15 true (eC Tryz.prog R X0 w0 true 39 #[u_16, u_17] k_21) (k_21 undef w0 X0)))
theorem ok_raceref_Fragment {R : Ending → World → Prop} {w0 : World} {p0_0 p0_1 p0_2 p0_3 p0_4 p0_5 p0_6 p0_7 : Int} {p0_8 : Value} {p1_0 p1_1 p1_2 p1_3 p1_4 p1_5 p1_6 p1_7 : Int} {p1_8 : Value} (h : vc_raceref_Fragment R w0 (old w0) p0_0 p0_1 p0_2 p0_3 p0_4 p0_5 p0_6 p0_7 p0_8 p1_0 p1_1 p1_2 p1_3 p1_4 p1_5 p1_6 p1_7 p1_8) : Calls Tryz.prog 43 #[(.agg #[(I p0_0), (I p0_1), (I p0_2), (I p0_3), (I p0_4), (I p0_5), (I p0_6), (I p0_7), p0_8]), (.agg #[(I p1_0), (I p1_1), (I p1_2), (I p1_3), (I p1_4), (I p1_5), (I p1_6), (I p1_7), p1_8])] w0 R :=
  calls_of_vc (pl := pl_raceref_Fragment) Tryz.func43 (by kernel_rfl) (by kernel_rfl) h
noncomputable def pl_raceref18_Tail_Need : Plan := ⟨29, [], [], [0, 2, 3, 4, 15], [], [3, 4]⟩
def vc_raceref18_Tail_Need (R : Ending → World → Prop) (w0 : World) (X0 : XS) (p0 : Value) : Prop :=
 (rdW Tryz.prog X0 w0 (nilN p0) fun x6_3 =>
 rdV Tryz.prog X0 w0 (fld 37 1 1 1 x6_3) fun x7_4 =>
 rdV Tryz.prog X0 w0 (ld1 3 x7_4) fun x8_5 =>
 ((lp2 X0 w0 (I 0) x8_5 4 3 fun J_9 n_10 v_14 v_15 w_12 X_13 =>
 rdW Tryz.prog X_13 w_12 (nilN p0) fun x11_18 =>
 rdV Tryz.prog X_13 w_12 (fld 37 3 5 1 x11_18) fun x12_19 =>
 rdV Tryz.prog X_13 w_12 (ld1 35 x12_19) fun x13_20 =>
 rdV Tryz.prog X_13 w_12 (lnS 35 3 x13_20) fun x14_21 =>
 rdV Tryz.prog X_13 w_12 (binOp .lss 3 v_14 x14_21) fun x15_22 =>
 (condW x15_22
 ((rdW Tryz.prog X_13 w_12 (nilN p0) fun x20_25 =>
 rdV Tryz.prog X_13 w_12 (fld 37 3 5 1 x20_25) fun x21_26 =>
 rdV Tryz.prog X_13 w_12 (ld1 35 x21_26) fun x22_27 =>
 rdV Tryz.prog X_13 w_12 (ixS 35 9 x22_27 v_14) fun x24_28 =>
 rdV Tryz.prog X_13 w_12 (fld 98 1 8 1 x24_28) fun x25_29 =>
 rdV Tryz.prog X_13 w_12 (ld1 3 x25_29) fun x26_30 =>
 rdV Tryz.prog X_13 w_12 (Builtin.min_ #[3, 3] 3 #[v_15, x26_30]) fun x27_31 =>
 ((rdV Tryz.prog X_13 w_12 (binOp .add 3 v_14 (I 1)) fun x17_32 =>
 nx2 J_9 n_10 x17_32 x27_31 w_12 X_13))))
 (fin R X_13 w_12 v_15)))))
theorem ok_raceref18_Tail_Need {R : Ending → World → Prop} {w0 : World} {p0 : Value} (h : vc_raceref18_Tail_Need R w0 (old w0) p0) : Calls Tryz.prog 44 #[p0] w0 R :=
  calls_of_vc (pl := pl_raceref18_Tail_Need) Tryz.func44 (by kernel_rfl) (by kernel_rfl) h
noncomputable def pl_raceref18_Tail_Opens : Plan := ⟨26, [], [], [0, 2, 3, 4, 11], [], [3, 4]⟩
def vc_raceref18_Tail_Opens (R : Ending → World → Prop) (w0 : World) (X0 : XS) (p0 : Value) : Prop :=
 (((lp2 X0 w0 (I 0) (.slice none 0 0) 4 3 fun J_6 n_7 v_11 v_12 w_9 X_10 =>
 rdW Tryz.prog X_10 w_9 (nilN p0) fun x7_15 =>
 rdV Tryz.prog X_10 w_9 (fld 37 3 5 1 x7_15) fun x8_16 =>
 rdV Tryz.prog X_10 w_9 (ld1 35 x8_16) fun x9_17 =>
 rdV Tryz.prog X_10 w_9 (lnS 35 3 x9_17) fun x10_18 =>
 rdV Tryz.prog X_10 w_9 (binOp .lss 3 v_11 x10_18) fun x11_19 =>
 (condW x11_19
 ((rdW Tryz.prog X_10 w_9 (nilN p0) fun x16_22 =>
 rdV Tryz.prog X_10 w_9 (fld 37 3 5 1 x16_22) fun x17_23 =>
 rdV Tryz.prog X_10 w_9 (ld1 35 x17_23) fun x18_24 =>
 rdV Tryz.prog X_10 w_9 (ixS 35 9 x18_24 v_11) fun x20_25 =>
 rdV Tryz.prog X_10 w_9 (fld 98 0 0 8 x20_25) fun x21_26 =>
 rdV Tryz.prog X_10 w_9 (ldA 87 8 x21_26) fun x22_27 =>
 eV Tryz.prog R X_10 w_9 true (bsS 47 87 8 1 #[(0, x22_27)]) fun x23_28 w_29 X_30 =>
 eV Tryz.prog R X_30 w_29 true (apS 47 87 8 96 47 v_12 x23_28) fun x24_31 w_32 X_33 =>
 ((rdV Tryz.prog X_33 w_32 (binOp .add 3 v_11 (I 1)) fun x13_34 =>
 nx2 J_6 n_7 x13_34 x24_31 w_32 X_33))))
 (fin R X_10 w_9 v_12)))))
theorem ok_raceref18_Tail_Opens {R : Ending → World → Prop} {w0 : World} {p0 : Value} (h : vc_raceref18_Tail_Opens R w0 (old w0) p0) : Calls Tryz.prog 45 #[p0] w0 R :=
  calls_of_vc (pl := pl_raceref18_Tail_Opens) Tryz.func45 (by kernel_rfl) (by kernel_rfl) h
noncomputable def pl_hlc_Prior : Plan := ⟨36, [(1, (Tryz.prog.cellsOf 34)), (2, (Tryz.prog.cellsOf 34))], [4, 19, 22, 25, 27, 30, 33, 34], [0, 3, 8, 18, 26], [12, 13, 14, 15], []⟩
def vc_hlc_Prior (R : Ending → World → Prop) (w0 : World) (X0 : XS) (p0_0 p0_1 p0_2 : Int) : Prop :=
 ((jn (fun (y1_27 : Value) (w_28 : World) (X_29 : XS) =>
 (chk (isA y1_27) (un (subOf y1_27 0 3) fun u_32 =>
 un (Value.agg (Value.cells u_32)) fun u_33 =>
 chk (List.length (Array.toList (Value.cells u_32)) == 3) (chk (List.all (Array.toList (Value.cells u_32)) one) ((un (subOf u_33 0 3) fun u_34 =>
 chk (List.all [u_33] isA) (fin R X_29 w_28 (Value.tuple #[u_34, (B true)])))))))) fun k_30 =>
 eC Tryz.prog R X0 w0 true 78 #[(.agg #[(I p0_0), (I p0_1), (I p0_2)])] fun x10_5 w_6 X_7 =>
 rdV Tryz.prog X_7 w_6 (Op.unary UnOp.not x10_5) fun x11_8 =>
 un (gSel x11_8 false (.agg #[(I p0_0), (I p0_1), (I p0_2)])) fun u_9 =>
 grdW Tryz.prog X_7 w_6 x11_8 false (vS (bld 34 #[(I 0), (I 0), (I 0)] #[])) fun x14_10 =>
 grdW Tryz.prog X_7 w_6 x11_8 false (vS (binS .eql 34 (.tmp 13) (.tmp 14) u_9 x14_10)) fun x15_11 =>
 rdW Tryz.prog X_7 w_6 (pickN x11_8 (B true) x15_11) fun x16_12 =>
 (condW x16_12
 (rdV Tryz.prog X_7 w_6 (bld 34 #[(I 0), (I 0), (I 0)] #[]) fun x17_14 =>
 un (Value.agg (Value.cells x17_14)) fun u_15 =>
 chk (List.length (Array.toList (Value.cells x17_14)) == 3) (chk (List.all (Array.toList (Value.cells x17_14)) one) ((un (subOf u_15 0 3) fun u_16 =>
 chk (List.all [u_15] isA) (fin R X_7 w_6 (Value.tuple #[u_16, (B false)]))))))
 (rdV Tryz.prog X_7 w_6 (binOp .gtr 3 (I p0_2) (I 0)) fun x21_18 =>
 (condW x21_18
 (rdV Tryz.prog X_7 w_6 (binOp .sub 3 (I p0_2) (I 1)) fun x24_19 =>
 chk (one x24_19) ((k_30 (.agg #[(I p0_0), (I p0_1), x24_19]) w_6 X_7)))
 (rdV Tryz.prog X_7 w_6 (binOp .gtr 3 (I p0_1) (I 0)) fun x29_21 =>
 (condW x29_21
 (rdV Tryz.prog X_7 w_6 (binOp .sub 3 (I p0_1) (I 1)) fun x32_23 =>
 chk (one x32_23) (((k_30 (.agg #[(I p0_0), x32_23, (I 63)]) w_6 X_7))))
 (rdV Tryz.prog X_7 w_6 (binOp .sub 3 (I p0_0) (I 1)) fun x6_24 =>
 rdV Tryz.prog X_7 w_6 (bld 34 #[x6_24, (I 65535), (I 63)] #[(0, x6_24), (1, (I 65535)), (2, (I 63))]) fun x7_25 =>
 un (Value.agg (Value.cells x7_25)) fun u_26 =>
 chk (List.length (Array.toList (Value.cells x7_25)) == 3) (chk (List.all (Array.toList (Value.cells x7_25)) one) (k_30 u_26 w_6 X_7))))))))))
theorem ok_hlc_Prior {R : Ending → World → Prop} {w0 : World} {p0_0 p0_1 p0_2 : Int} (h : vc_hlc_Prior R w0 (old w0) p0_0 p0_1 p0_2) : Calls Tryz.prog 49 #[(.agg #[(I p0_0), (I p0_1), (I p0_2)])] w0 R :=
  calls_of_vc (pl := pl_hlc_Prior) Tryz.func49 (by kernel_rfl) (by kernel_rfl) h
noncomputable def pl_hlc_Compare : Plan := ⟨37, [(2, (Tryz.prog.cellsOf 34)), (3, (Tryz.prog.cellsOf 34))], [7, 9, 11, 13, 20, 22, 25, 27], [0, 1, 4, 5, 6, 15, 19, 29, 33], [], []⟩
def vc_hlc_Compare (R : Ending → World → Prop) (w0 : World) (X0 : XS) (p0_0 p0_1 p0_2 p1_0 p1_1 p1_2 : Int) : Prop :=
 (((jn (fun (y5_9 y6_10 : Value) =>
 (rdV Tryz.prog X0 w0 (binOp .lss 3 y5_9 y6_10) fun x32_15 =>
 (condW x32_15
 ((fin R X0 w0 (I (-1))))
 (rdV Tryz.prog X0 w0 (binOp .gtr 3 y5_9 y6_10) fun x36_18 =>
 (condW x36_18
 (fin R X0 w0 (I 1))
 (fin R X0 w0 (I 0))))))) fun k_11 =>
 rdV Tryz.prog X0 w0 (binS .neq 3 (.tmp 16) (.tmp 17) (I p0_0) (I p1_0)) fun x18_6 =>
 (condW x18_6
 (k_11 (I p0_0) (I p1_0))
 (rdV Tryz.prog X0 w0 (binS .neq 3 (.tmp 21) (.tmp 23) (I p0_1) (I p1_1)) fun x24_8 =>
 (condW x24_8
 (k_11 (I p0_1) (I p1_1))
 (k_11 (I p0_2) (I p1_2))))))))
theorem ok_hlc_Compare {R : Ending → World → Prop} {w0 : World} {p0_0 p0_1 p0_2 p1_0 p1_1 p1_2 : Int} (h : vc_hlc_Compare R w0 (old w0) p0_0 p0_1 p0_2 p1_0 p1_1 p1_2) : Calls Tryz.prog 50 #[(.agg #[(I p0_0), (I p0_1), (I p0_2)]), (.agg #[(I p1_0), (I p1_1), (I p1_2)])] w0 R :=
  calls_of_vc (pl := pl_hlc_Compare) Tryz.func50 (by kernel_rfl) (by kernel_rfl) h
noncomputable def pl_raceref_Pending : Plan := ⟨31, [(2, (Tryz.prog.cellsOf 87)), (3, (Tryz.prog.cellsOf 87))], [5, 7, 11, 13, 18, 20, 25, 27], [0, 1, 4], [10, 12, 14, 15, 17, 19, 21, 22, 24, 26, 28, 29], []⟩
def vc_raceref_Pending (R : Ending → World → Prop) (w0 : World) (X0 : XS) (p0_0 p0_1 p0_2 p0_3 p0_4 p0_5 : Int) (p0_6 p0_7 : Value) (p1_0 p1_1 p1_2 p1_3 p1_4 p1_5 : Int) (p1_6 p1_7 : Value) : Prop :=
 (rdV Tryz.prog X0 w0 (binS .eql 39 (.tmp 6) (.tmp 8) (.agg #[(I p0_0), (I p0_1), (I p0_2)]) (.agg #[(I p1_0), (I p1_1), (I p1_2)])) fun x9_3 =>
 un (gSel x9_3 true (.agg #[(I p0_3), (I p0_4), (I p0_5)])) fun u_4 =>
 un (gSel x9_3 true (.agg #[(I p1_3), (I p1_4), (I p1_5)])) fun u_5 =>
 grdW Tryz.prog X0 w0 x9_3 true (vS (binS .eql 34 (.tmp 12) (.tmp 14) u_4 u_5)) fun x15_6 =>
 rdW Tryz.prog X0 w0 (pickN x9_3 x15_6 (B false)) fun x16_7 =>
 un (gSel x16_7 true p0_6) fun u_8 =>
 un (gSel x16_7 true p1_6) fun u_9 =>
 jn (fun (x22_10 : Value) (w_11 : World) (X_12 : XS) =>
 rdW Tryz.prog X_12 w_11 (pickN x16_7 x22_10 (B false)) fun x23_14 =>
 un (gSel x23_14 true p0_7) fun u_15 =>
 un (gSel x23_14 true p1_7) fun u_16 =>
 jn (fun (x29_17 : Value) (w_18 : World) (X_19 : XS) =>
 rdW Tryz.prog X_19 w_18 (pickN x23_14 x29_17 (B false)) fun x30_21 =>
 (fin R X_19 w_18 x30_21)) fun k_20 =>
 (gE x23_14 true (eC Tryz.prog R X_12 w_11 true 39 #[u_15, u_16] k_20) (k_20 undef w_11 X_12))) fun k_13 =>
 (gE x16_7 true (eC Tryz.prog R X0 w0 true 38 #[u_8, u_9] k_13) (k_13 undef w0 X0)))
theorem ok_raceref_Pending {R : Ending → World → Prop} {w0 : World} {p0_0 p0_1 p0_2 p0_3 p0_4 p0_5 : Int} {p0_6 p0_7 : Value} {p1_0 p1_1 p1_2 p1_3 p1_4 p1_5 : Int} {p1_6 p1_7 : Value} (h : vc_raceref_Pending R w0 (old w0) p0_0 p0_1 p0_2 p0_3 p0_4 p0_5 p0_6 p0_7 p1_0 p1_1 p1_2 p1_3 p1_4 p1_5 p1_6 p1_7) : Calls Tryz.prog 51 #[(.agg #[(I p0_0), (I p0_1), (I p0_2), (I p0_3), (I p0_4), (I p0_5), p0_6, p0_7]), (.agg #[(I p1_0), (I p1_1), (I p1_2), (I p1_3), (I p1_4), (I p1_5), p1_6, p1_7])] w0 R :=
  calls_of_vc (pl := pl_raceref_Pending) Tryz.func51 (by kernel_rfl) (by kernel_rfl) h
noncomputable def pl_raceref_few : Plan := ⟨20, [], [], [0, 1, 2, 6, 14], [10, 11, 12, 13], []⟩
def vc_raceref_few (R : Ending → World → Prop) (w0 : World) (X0 : XS) (p0 p1 p2 : Int) : Prop :=
 (rdV Tryz.prog X0 w0 (binOp .gtr 3 (I p1) (I p2)) fun x9_4 =>
 un (gSel x9_4 false (I p0)) fun u_5 =>
 un (gSel x9_4 false (I p2)) fun u_6 =>
 grdW Tryz.prog X0 w0 x9_4 false (vS (binOp .gtr 3 u_5 u_6)) fun x13_7 =>
 rdW Tryz.prog X0 w0 (pickN x9_4 (B true) x13_7) fun x14_8 =>
 (condW x14_8
 (rdV Tryz.prog X0 w0 (binOp .add 3 (I p2) (I 1)) fun x16_10 =>
 (fin R X0 w0 x16_10))
 ((rdV Tryz.prog X0 w0 (binOp .add 3 (I p0) (I p1)) fun x19_12 =>
 (fin R X0 w0 x19_12)))))
theorem ok_raceref_few {R : Ending → World → Prop} {w0 : World} {p0 p1 p2 : Int} (h : vc_raceref_few R w0 (old w0) p0 p1 p2) : Calls Tryz.prog 52 #[(I p0), (I p1), (I p2)] w0 R :=
  calls_of_vc (pl := pl_raceref_few) Tryz.func52 (by kernel_rfl) (by kernel_rfl) h
noncomputable def pl_raceref_WeighTexts : Plan := ⟨28, [], [], [0, 1, 4, 5, 6, 15], [11, 12, 13, 14], [5, 6]⟩
def vc_raceref_WeighTexts (R : Ending → World → Prop) (w0 : World) (X0 : XS) (p0 : Value) (p1 : Int) : Prop :=
 (((lp2 X0 w0 (I 0) (I 0) 6 5 fun J_6 n_7 v_11 v_12 w_9 X_10 =>
 rdV Tryz.prog X_10 w_9 (lnS 41 3 p0) fun x9_15 =>
 rdV Tryz.prog X_10 w_9 (binOp .lss 3 v_11 x9_15) fun x10_16 =>
 un (gSel x10_16 true v_12) fun u_17 =>
 un (gSel x10_16 true (I p1)) fun u_18 =>
 grdW Tryz.prog X_10 w_9 x10_16 true (vS (binOp .leq 3 u_17 u_18)) fun x14_19 =>
 rdW Tryz.prog X_10 w_9 (pickN x10_16 x14_19 (B false)) fun x15_20 =>
 (condW x15_20
 ((rdV Tryz.prog X_10 w_9 (ixS 41 1 p0 v_11) fun x21_23 =>
 rdV Tryz.prog X_10 w_9 (ld1 9 x21_23) fun x22_24 =>
 rdV Tryz.prog X_10 w_9 (lnT 9 3 x22_24) fun x23_25 =>
 rdV Tryz.prog X_10 w_9 (binOp .add 3 (I 1) x23_25) fun x24_26 =>
 eC Tryz.prog R X_10 w_9 true 52 #[v_12, x24_26, (I p1)] fun x26_27 w_28 X_29 =>
 ((rdV Tryz.prog X_29 w_28 (binOp .add 3 v_11 (I 1)) fun x17_30 =>
 nx2 J_6 n_7 x17_30 x26_27 w_28 X_29))))
 (fin R X_10 w_9 v_12)))))
theorem ok_raceref_WeighTexts {R : Ending → World → Prop} {w0 : World} {p0 : Value} {p1 : Int} (h : vc_raceref_WeighTexts R w0 (old w0) p0 p1) : Calls Tryz.prog 53 #[p0, (I p1)] w0 R :=
  calls_of_vc (pl := pl_raceref_WeighTexts) Tryz.func53 (by kernel_rfl) (by kernel_rfl) h
noncomputable def pl_raceref_WeighWrites : Plan := ⟨38, [], [], [0, 1, 4, 5, 6, 15], [11, 12, 13, 14, 18], [5, 6]⟩
def vc_raceref_WeighWrites (R : Ending → World → Prop) (w0 : World) (X0 : XS) (p0 : Value) (p1 : Int) : Prop :=
 (((lp2 X0 w0 (I 0) (I 0) 6 5 fun J_6 n_7 v_11 v_12 w_9 X_10 =>
 rdV Tryz.prog X_10 w_9 (lnS 42 3 p0) fun x9_15 =>
 rdV Tryz.prog X_10 w_9 (binOp .lss 3 v_11 x9_15) fun x10_16 =>
 un (gSel x10_16 true v_12) fun u_17 =>
 un (gSel x10_16 true (I p1)) fun u_18 =>
 grdW Tryz.prog X_10 w_9 x10_16 true (vS (binOp .leq 3 u_17 u_18)) fun x14_19 =>
 rdW Tryz.prog X_10 w_9 (pickN x10_16 x14_19 (B false)) fun x15_20 =>
 (condW x15_20
 ((rdV Tryz.prog X_10 w_9 (ixS 42 4 p0 v_11) fun x21_23 =>
 rdV Tryz.prog X_10 w_9 (fld 66 0 0 1 x21_23) fun x22_24 =>
 rdV Tryz.prog X_10 w_9 (ld1 9 x22_24) fun x23_25 =>
 rdV Tryz.prog X_10 w_9 (lnT 9 3 x23_25) fun x24_26 =>
 rdV Tryz.prog X_10 w_9 (binOp .add 3 (I 1) x24_26) fun x25_27 =>
 rdV Tryz.prog X_10 w_9 (ixS 42 4 p0 v_11) fun x30_28 =>
 rdV Tryz.prog X_10 w_9 (fld 66 1 1 3 x30_28) fun x31_29 =>
 rdV Tryz.prog X_10 w_9 (fld 64 2 2 1 x31_29) fun x32_30 =>
 rdV Tryz.prog X_10 w_9 (ld1 9 x32_30) fun x33_31 =>
 rdV Tryz.prog X_10 w_9 (lnT 9 3 x33_31) fun x34_32 =>
 eC Tryz.prog R X_10 w_9 false 52 #[v_12, x25_27, (I p1)] fun x27_33 w_34 X_35 =>
 eC Tryz.prog R X_35 w_34 true 52 #[x27_33, x34_32, (I p1)] fun x36_36 w_37 X_38 =>
 ((rdV Tryz.prog X_38 w_37 (binOp .add 3 v_11 (I 1)) fun x17_39 =>
 nx2 J_6 n_7 x17_39 x36_36 w_37 X_38))))
 (fin R X_10 w_9 v_12)))))
theorem ok_raceref_WeighWrites {R : Ending → World → Prop} {w0 : World} {p0 : Value} {p1 : Int} (h : vc_raceref_WeighWrites R w0 (old w0) p0 p1) : Calls Tryz.prog 54 #[p0, (I p1)] w0 R :=
  calls_of_vc (pl := pl_raceref_WeighWrites) Tryz.func54 (by kernel_rfl) (by kernel_rfl) h
noncomputable def pl_raceref_WeighState : Plan := ⟨15, [(2, (Tryz.prog.cellsOf 49))], [5, 9], [0, 1, 4], [], []⟩
def vc_raceref_WeighState (R : Ending → World → Prop) (w0 : World) (X0 : XS) (_p0_0 _p0_1 : Int) (_p0_2 _p0_3 : Nat) (_p0_4 _p0_5 _p0_6 _p0_7 _p0_8 _p0_9 : Int) (p0_10 p0_11 : Value) (p1 : Int) : Prop :=
 (eC Tryz.prog R X0 w0 false 79 #[p0_10, (I p1)] fun x8_3 w_4 X_5 =>
 eC Tryz.prog R X_5 w_4 false 80 #[p0_11, (I p1)] fun x12_6 w_7 X_8 =>
 eC Tryz.prog R X_8 w_7 true 52 #[x8_3, x12_6, (I p1)] fun x14_9 w_10 X_11 =>
 (fin R X_11 w_10 x14_9))
theorem ok_raceref_WeighState {R : Ending → World → Prop} {w0 : World} {p0_0 p0_1 : Int} {p0_2 p0_3 : Nat} {p0_4 p0_5 p0_6 p0_7 p0_8 p0_9 : Int} {p0_10 p0_11 : Value} {p1 : Int} (h : vc_raceref_WeighState R w0 (old w0) p0_0 p0_1 p0_2 p0_3 p0_4 p0_5 p0_6 p0_7 p0_8 p0_9 p0_10 p0_11 p1) : Calls Tryz.prog 55 #[(.agg #[(I p0_0), (I p0_1), (.float .f64 p0_2), (.float .f64 p0_3), (I p0_4), (I p0_5), (I p0_6), (I p0_7), (I p0_8), (I p0_9), p0_10, p0_11]), (I p1)] w0 R :=
  calls_of_vc (pl := pl_raceref_WeighState) Tryz.func55 (by kernel_rfl) (by kernel_rfl) h
noncomputable def pl_raceref_CopyHistories : Plan := ⟨47, [(5, (Tryz.prog.cellsOf 142))], [29, 41], [0, 2, 3, 4, 6, 10, 26], [30], [3, 4, 5, 6]⟩
def vc_raceref_CopyHistories (R : Ending → World → Prop) (w0 : World) (X0 : XS) (p0 : Value) : Prop :=
 (((lp4 X0 w0 (I 0) (.slice none 0 0) undef undef 4 3 6 5 fun J_6 n_7 v_11 v_12 _ _ w_9 X_10 =>
 rdV Tryz.prog X_10 w_9 (lnS 46 3 p0) fun x9_17 =>
 rdV Tryz.prog X_10 w_9 (binOp .lss 3 v_11 x9_17) fun x10_18 =>
 (condW x10_18
 ((rdV Tryz.prog X_10 w_9 (ixS 46 2 p0 v_11) fun x15_22 =>
 rdV Tryz.prog X_10 w_9 (fld 142 0 0 1 x15_22) fun x16_23 =>
 rdV Tryz.prog X_10 w_9 (ld1 9 x16_23) fun x17_24 =>
 rdV Tryz.prog X_10 w_9 (bld 142 #[x17_24, (.slice none 0 0)] #[(0, x17_24)]) fun x18_25 =>
 un (Value.agg (Value.cells x18_25)) fun u_26 =>
 chk (List.length (Array.toList (Value.cells x18_25)) == 2) (chk (List.all (Array.toList (Value.cells x18_25)) one) (((lp2 X_10 w_9 (I 0) u_26 6 5 fun J_30 n_31 v_35 v_36 w_33 X_34 =>
 rdV Tryz.prog X_34 w_33 (ixS 46 2 p0 v_11) fun x22_39 =>
 rdV Tryz.prog X_34 w_33 (fld 142 1 1 1 x22_39) fun x23_40 =>
 rdV Tryz.prog X_34 w_33 (ld1 140 x23_40) fun x24_41 =>
 rdV Tryz.prog X_34 w_33 (lnS 140 3 x24_41) fun x25_42 =>
 rdV Tryz.prog X_34 w_33 (binOp .lss 3 v_35 x25_42) fun x26_43 =>
 (condW x26_43
 ((chk (isA v_36) (un (cellOf v_36 1) fun u_46 =>
 rdV Tryz.prog X_34 w_33 (ixS 46 2 p0 v_11) fun x33_47 =>
 rdV Tryz.prog X_34 w_33 (fld 142 1 1 1 x33_47) fun x34_48 =>
 rdV Tryz.prog X_34 w_33 (ld1 140 x34_48) fun x35_49 =>
 rdV Tryz.prog X_34 w_33 (ixS 140 6 x35_49 v_35) fun x37_50 =>
 rdV Tryz.prog X_34 w_33 (ldA 144 6 x37_50) fun x38_51 =>
 eV Tryz.prog R X_34 w_33 false (bsS 140 144 6 1 #[(0, x38_51)]) fun x39_52 w_53 X_54 =>
 eV Tryz.prog R X_54 w_53 true (apS 140 144 6 56 140 u_46 x39_52) fun x40_55 w_56 X_57 =>
 un (Value.agg (List.toArray (setL (Array.toList (Value.cells v_36)) 1 [x40_55]))) fun u_58 =>
 chk (one x40_55) (((rdV Tryz.prog X_57 w_56 (binOp .add 3 v_35 (I 1)) fun x28_59 =>
 nx2 J_30 n_31 x28_59 u_58 w_56 X_57))))))
 (((chk (isA v_36) (un (subOf v_36 0 2) fun u_60 =>
 eV Tryz.prog R X_34 w_33 true (bsS 46 142 2 1 #[(0, u_60)]) fun x44_61 w_62 X_63 =>
 eV Tryz.prog R X_63 w_62 true (apS 46 142 2 40 46 v_12 x44_61) fun x45_64 w_65 X_66 =>
 ((rdV Tryz.prog X_66 w_65 (binOp .add 3 v_11 (I 1)) fun x12_67 =>
 nx4 J_6 n_7 x12_67 x45_64 v_35 v_36 w_65 X_66)))))))))))))
 (fin R X_10 w_9 v_12)))))
theorem ok_raceref_CopyHistories {R : Ending → World → Prop} {w0 : World} {p0 : Value} (h : vc_raceref_CopyHistories R w0 (old w0) p0) : Calls Tryz.prog 56 #[p0] w0 R :=
  calls_of_vc (pl := pl_raceref_CopyHistories) Tryz.func56 (by kernel_rfl) (by kernel_rfl) h
noncomputable def pl_raceref_CopyPendings : Plan := ⟨20, [], [], [0, 2, 3, 4, 8], [], [3, 4]⟩
def vc_raceref_CopyPendings (R : Ending → World → Prop) (w0 : World) (X0 : XS) (p0 : Value) : Prop :=
 (((lp2 X0 w0 (I 0) (.slice none 0 0) 4 3 fun J_6 n_7 v_11 v_12 w_9 X_10 =>
 rdV Tryz.prog X_10 w_9 (lnS 47 3 p0) fun x7_15 =>
 rdV Tryz.prog X_10 w_9 (binOp .lss 3 v_11 x7_15) fun x8_16 =>
 (condW x8_16
 ((rdV Tryz.prog X_10 w_9 (ixS 47 8 p0 v_11) fun x14_19 =>
 rdV Tryz.prog X_10 w_9 (ldA 87 8 x14_19) fun x15_20 =>
 eC Tryz.prog R X_10 w_9 true 69 #[x15_20] fun x16_21 w_22 X_23 =>
 eV Tryz.prog R X_23 w_22 true (bsS 47 87 8 1 #[(0, x16_21)]) fun x17_24 w_25 X_26 =>
 eV Tryz.prog R X_26 w_25 true (apS 47 87 8 96 47 v_12 x17_24) fun x18_27 w_28 X_29 =>
 ((rdV Tryz.prog X_29 w_28 (binOp .add 3 v_11 (I 1)) fun x10_30 =>
 nx2 J_6 n_7 x10_30 x18_27 w_28 X_29))))
 (fin R X_10 w_9 v_12)))))
theorem ok_raceref_CopyPendings {R : Ending → World → Prop} {w0 : World} {p0 : Value} (h : vc_raceref_CopyPendings R w0 (old w0) p0) : Calls Tryz.prog 57 #[p0] w0 R :=
  calls_of_vc (pl := pl_raceref_CopyPendings) Tryz.func57 (by kernel_rfl) (by kernel_rfl) h
noncomputable def pl_recs_May : Plan := ⟨22, [(1, (Tryz.prog.cellsOf 51)), (3, (Tryz.prog.cellsOf 51))], [], [0, 2, 4, 10, 13], [17, 18, 19, 20], []⟩
def vc_recs_May (R : Ending → World → Prop) (w0 : World) (X0 : XS) (p0_0 p0_1 p0_2 p0_3 p0_4 p0_5 p0_6 p0_7 p0_8 p0_9 : Int) (p0_10 : Bool) (p0_11 : Int) (p0_12 : Nat) (p0_13 p0_14 p0_15 p0_16 : Value) (p0_17 p0_18 : Int) (p0_19 p0_20 : Nat) (p0_21 p0_22 p0_23 p0_24 p0_25 p0_26 : Int) (p0_27 p0_28 : Value) : Prop :=
 (eC Tryz.prog R X0 w0 true 81 #[(.agg #[(I p0_0), (I p0_1), (I p0_2), (I p0_3), (I p0_4), (I p0_5), (I p0_6), (I p0_7), (I p0_8), (I p0_9), (B p0_10), (I p0_11), (.float .f64 p0_12), p0_13, p0_14, p0_15, p0_16, (I p0_17), (I p0_18), (.float .f64 p0_19), (.float .f64 p0_20), (I p0_21), (I p0_22), (I p0_23), (I p0_24), (I p0_25), (I p0_26), p0_27, p0_28])] fun x7_3 w_4 X_5 =>
 rdV Tryz.prog X_5 w_4 (Instr.extract x7_3 0) fun x8_6 =>
 rdV Tryz.prog X_5 w_4 (Instr.extract x7_3 1) fun x9_7 =>
 un (Value.agg (Value.cells x8_6)) fun u_8 =>
 chk (List.length (Array.toList (Value.cells x8_6)) == 29) (chk (List.all (Array.toList (Value.cells x8_6)) one) ((rdV Tryz.prog X_5 w_4 (Op.unary UnOp.not x9_7) fun x12_12 =>
 (condW x12_12
 (fin R X_5 w_4 (I 7))
 (chk (isA u_8) (un (subOf u_8 0 29) fun u_15 =>
 eC Tryz.prog R X_5 w_4 true 82 #[u_15] fun x15_16 w_17 X_18 =>
 rdV Tryz.prog X_18 w_17 (Op.unary UnOp.not x15_16) fun x16_19 =>
 un (gSel x16_19 false (.agg #[(I p0_0), (I p0_1), (I p0_2), (I p0_3), (I p0_4), (I p0_5), (I p0_6), (I p0_7), (I p0_8), (I p0_9), (B p0_10), (I p0_11), (.float .f64 p0_12), p0_13, p0_14, p0_15, p0_16, (I p0_17), (I p0_18), (.float .f64 p0_19), (.float .f64 p0_20), (I p0_21), (I p0_22), (I p0_23), (I p0_24), (I p0_25), (I p0_26), p0_27, p0_28])) fun u_20 =>
 jn (fun (x19_21 : Value) (w_22 : World) (X_23 : XS) =>
 grdW Tryz.prog X_23 w_22 x16_19 false (vS (Op.unary UnOp.not x19_21)) fun x20_25 =>
 rdW Tryz.prog X_23 w_22 (pickN x16_19 (B true) x20_25) fun x21_26 =>
 (condW x21_26
 (fin R X_23 w_22 (I 4))
 (fin R X_23 w_22 (I 0)))) fun k_24 =>
 (gE x16_19 false (eC Tryz.prog R X_18 w_17 true 83 #[u_20] k_24) (k_24 undef w_17 X_18)))))))))
theorem ok_recs_May {R : Ending → World → Prop} {w0 : World} {p0_0 p0_1 p0_2 p0_3 p0_4 p0_5 p0_6 p0_7 p0_8 p0_9 : Int} {p0_10 : Bool} {p0_11 : Int} {p0_12 : Nat} {p0_13 p0_14 p0_15 p0_16 : Value} {p0_17 p0_18 : Int} {p0_19 p0_20 : Nat} {p0_21 p0_22 p0_23 p0_24 p0_25 p0_26 : Int} {p0_27 p0_28 : Value} (h : vc_recs_May R w0 (old w0) p0_0 p0_1 p0_2 p0_3 p0_4 p0_5 p0_6 p0_7 p0_8 p0_9 p0_10 p0_11 p0_12 p0_13 p0_14 p0_15 p0_16 p0_17 p0_18 p0_19 p0_20 p0_21 p0_22 p0_23 p0_24 p0_25 p0_26 p0_27 p0_28) : Calls Tryz.prog 58 #[(.agg #[(I p0_0), (I p0_1), (I p0_2), (I p0_3), (I p0_4), (I p0_5), (I p0_6), (I p0_7), (I p0_8), (I p0_9), (B p0_10), (I p0_11), (.float .f64 p0_12), p0_13, p0_14, p0_15, p0_16, (I p0_17), (I p0_18), (.float .f64 p0_19), (.float .f64 p0_20), (I p0_21), (I p0_22), (I p0_23), (I p0_24), (I p0_25), (I p0_26), p0_27, p0_28])] w0 R :=
  calls_of_vc (pl := pl_recs_May) Tryz.func58 (by kernel_rfl) (by kernel_rfl) h
noncomputable def pl_slices_Clone_sl_string_string : Plan := ⟨8, [], [], [0, 2, 4], [], []⟩
def vc_slices_Clone_sl_string_string (R : Ending → World → Prop) (w0 : World) (X0 : XS) (p0 : Value) : Prop :=
 (rdV Tryz.prog X0 w0 (binS .eql 41 (.tmp 3) (.const (.slice none 0 0)) p0 (.slice none 0 0)) fun x4_4 =>
 (condW x4_4
 (fin R X0 w0 (.slice none 0 0))
 (eV Tryz.prog R X0 w0 true (bsS 41 9 1 0 #[]) fun x5_7 w_8 X_9 =>
 eV Tryz.prog R X_9 w_8 true (apS 41 9 1 16 41 x5_7 p0) fun x7_10 w_11 X_12 =>
 (fin R X_12 w_11 x7_10))))
theorem ok_slices_Clone_sl_string_string {R : Ending → World → Prop} {w0 : World} {p0 : Value} (h : vc_slices_Clone_sl_string_string R w0 (old w0) p0) : Calls Tryz.prog 59 #[p0] w0 R :=
  calls_of_vc (pl := pl_slices_Clone_sl_string_string) Tryz.func59 (by kernel_rfl) (by kernel_rfl) h
noncomputable def pl_slices_Clone_sl_api_Write_api_Write : Plan := ⟨8, [], [], [0, 2, 4], [], []⟩
def vc_slices_Clone_sl_api_Write_api_Write (R : Ending → World → Prop) (w0 : World) (X0 : XS) (p0 : Value) : Prop :=
 (rdV Tryz.prog X0 w0 (binS .eql 42 (.tmp 3) (.const (.slice none 0 0)) p0 (.slice none 0 0)) fun x4_4 =>
 (condW x4_4
 (fin R X0 w0 (.slice none 0 0))
 (eV Tryz.prog R X0 w0 true (bsS 42 66 4 0 #[]) fun x5_7 w_8 X_9 =>
 eV Tryz.prog R X_9 w_8 true (apS 42 66 4 48 42 x5_7 p0) fun x7_10 w_11 X_12 =>
 (fin R X_12 w_11 x7_10))))
theorem ok_slices_Clone_sl_api_Write_api_Write {R : Ending → World → Prop} {w0 : World} {p0 : Value} (h : vc_slices_Clone_sl_api_Write_api_Write R w0 (old w0) p0) : Calls Tryz.prog 60 #[p0] w0 R :=
  calls_of_vc (pl := pl_slices_Clone_sl_api_Write_api_Write) Tryz.func60 (by kernel_rfl) (by kernel_rfl) h
noncomputable def pl_hand_Halve : Plan := ⟨30, [(7, (Tryz.prog.cellsOf 66))], [14], [0, 1, 4, 5, 8, 9, 10, 11, 18], [], [4, 5, 10]⟩
def vc_hand_Halve (R : Ending → World → Prop) (w0 : World) (X0 : XS) (p0 : Value) (p1 : Nat) : Prop :=
 (rdV Tryz.prog X0 w0 (lnS 42 3 p0) fun x9_4 =>
 (lp3 X0 w0 (I 0) (.slice none 0 0) (.slice none 0 0) 10 5 4 fun J_6 n_7 v_11 v_12 v_13 w_9 X_10 =>
 rdV Tryz.prog X_10 w_9 (binOp .lss 3 v_11 x9_4) fun x11_15 =>
 (condW x11_15
 (((jn (fun (y4_43 y5_44 : Value) (w_45 : World) (X_46 : XS) =>
 (rdV Tryz.prog X_46 w_45 (binOp .add 3 v_11 (I 1)) fun x27_48 =>
 nx3 J_6 n_7 x27_48 y5_44 y4_43 w_45 X_46)) fun k_47 =>
 rdV Tryz.prog X_10 w_9 (ixS 42 4 p0 v_11) fun x12_20 =>
 rdV Tryz.prog X_10 w_9 (ldA 66 4 x12_20) fun x13_21 =>
 un (Value.agg (Value.cells x13_21)) fun u_22 =>
 chk (List.length (Array.toList (Value.cells x13_21)) == 4) (chk (List.all (Array.toList (Value.cells x13_21)) one) ((chk (isA u_22) (un (cellOf u_22 0) fun u_24 =>
 eC Tryz.prog R X_10 w_9 true 64 #[u_24] fun x16_25 w_26 X_27 =>
 rdV Tryz.prog X_27 w_26 (binOp .lss 40 x16_25 (.float .f64 p1)) fun x18_28 =>
 (condW x18_28
 (chk (isA u_22) (un (subOf u_22 0 4) fun u_29 =>
 eV Tryz.prog R X_27 w_26 true (bsS 42 66 4 1 #[(0, u_29)]) fun x21_30 w_31 X_32 =>
 eV Tryz.prog R X_32 w_31 true (apS 42 66 4 48 42 v_13 x21_30) fun x22_33 w_34 X_35 =>
 (k_47 x22_33 v_12 w_34 X_35)))
 (chk (isA u_22) (un (subOf u_22 0 4) fun u_36 =>
 eV Tryz.prog R X_27 w_26 true (bsS 42 66 4 1 #[(0, u_36)]) fun x25_37 w_38 X_39 =>
 eV Tryz.prog R X_39 w_38 true (apS 42 66 4 48 42 v_12 x25_37) fun x26_40 w_41 X_42 =>
 (k_47 v_13 x26_40 w_41 X_42)))))))))))
 (fin R X_10 w_9 (Value.tuple #[v_13, v_12])))))
theorem ok_hand_Halve {R : Ending → World → Prop} {w0 : World} {p0 : Value} {p1 : Nat} (h : vc_hand_Halve R w0 (old w0) p0 p1) : Calls Tryz.prog 61 #[p0, (.float .f64 p1)] w0 R :=
  calls_of_vc (pl := pl_hand_Halve) Tryz.func61 (by kernel_rfl) (by kernel_rfl) h
noncomputable def pl_slices_DeleteFunc_sl_string_string : Plan := ⟨42, [], [], [0, 1, 4, 5, 6, 7, 12, 19, 29], [], [5, 6]⟩
def vc_slices_DeleteFunc_sl_string_string (R : Ending → World → Prop) (w0 : World) (X0 : XS) (p0 p1 : Value) : Prop :=
 (eC Tryz.prog R X0 w0 true 84 #[p0, p1] fun x10_3 w_4 X_5 =>
 (rdV Tryz.prog X_5 w_4 (binS .eql 3 (.tmp 11) (.const (I (-1))) x10_3 (I (-1))) fun x12_8 =>
 (condW x12_8
 (fin R X_5 w_4 p0)
 ((rdV Tryz.prog X_5 w_4 (binOp .add 3 x10_3 (I 1)) fun x15_12 =>
 (lp2 X_5 w_4 x15_12 x10_3 6 5 fun J_14 n_15 v_19 v_20 w_17 X_18 =>
 rdV Tryz.prog X_18 w_17 (lnS 41 3 p0) fun x18_23 =>
 rdV Tryz.prog X_18 w_17 (binOp .lss 3 v_19 x18_23) fun x19_24 =>
 (condW x19_24
 (((jn (fun (y5_40 : Value) (w_41 : World) (X_42 : XS) =>
 (rdV Tryz.prog X_42 w_41 (binOp .add 3 v_19 (I 1)) fun x21_44 =>
 nx2 J_14 n_15 x21_44 y5_40 w_41 X_42)) fun k_43 =>
 rdV Tryz.prog X_18 w_17 (ixS 41 1 p0 v_19) fun x24_28 =>
 rdV Tryz.prog X_18 w_17 (ld1 9 x24_28) fun x25_29 =>
 (eF Tryz.prog R X_18 w_17 true p1 #[x25_29] fun x28_31 w_32 X_33 =>
 rdV Tryz.prog X_33 w_32 (Op.unary UnOp.not x28_31) fun x29_34 =>
 (condW x29_34
 (rdV Tryz.prog X_33 w_32 (ixS 41 1 p0 v_20) fun x33_36 =>
 eU Tryz.prog R X_33 w_32 true (st1 9 1 x33_36 x25_29) fun _ w_37 X_38 =>
 (rdV Tryz.prog X_38 w_37 (binOp .add 3 v_20 (I 1)) fun x35_39 =>
 (k_43 x35_39 w_37 X_38)))
 (k_43 v_20 w_32 X_33))))))
 (((rdV Tryz.prog X_18 w_17 (Instr.sliceAt 41 p0 (some v_20) none none) fun x38_46 =>
 eV Tryz.prog R X_18 w_17 true (Builtin.clear_ #[41] 0 #[x38_46]) fun _ w_47 X_48 =>
 (rdV Tryz.prog X_48 w_47 (Instr.sliceAt 41 p0 none (some v_20) none) fun x41_50 =>
 (fin R X_48 w_47 x41_50))))))))))))
theorem ok_slices_DeleteFunc_sl_string_string {R : Ending → World → Prop} {w0 : World} {p0 p1 : Value} (h : vc_slices_DeleteFunc_sl_string_string R w0 (old w0) p0 p1) : Calls Tryz.prog 62 #[p0, p1] w0 R :=
  calls_of_vc (pl := pl_slices_DeleteFunc_sl_string_string) Tryz.func62 (by kernel_rfl) (by kernel_rfl) h
noncomputable def pl_tail_Tail_split_c1 : Plan := ⟨9, [], [], [0, 1, 3], [], []⟩
def vc_tail_Tail_split_c1 (R : Ending → World → Prop) (w0 : World) (X0 : XS) (p0 : ByteArray) (c0 : Value) : Prop :=
 (rdV Tryz.prog X0 w0 (fld 51 6 12 1 c0) fun x6_3 =>
 rdV Tryz.prog X0 w0 (ld1 40 x6_3) fun x7_4 =>
 eC Tryz.prog R X0 w0 false 64 #[(.string p0)] fun x5_5 w_6 X_7 =>
 rdV Tryz.prog X_7 w_6 (binOp .geq 40 x5_5 x7_4) fun x8_8 =>
 (fin R X_7 w_6 x8_8))
theorem ok_tail_Tail_split_c1 {R : Ending → World → Prop} {w0 : World} {p0 : ByteArray} {c0 : Value} (h : vc_tail_Tail_split_c1 R w0 (old w0) p0 c0) : Calls Tryz.prog 63 #[(.string p0), c0] w0 R :=
  calls_of_vc (pl := pl_tail_Tail_split_c1) Tryz.func63 (by kernel_rfl) (by kernel_rfl) h
noncomputable def pl_place_Of : Plan := ⟨8, [], [], [0, 2], [], []⟩
def vc_place_Of (R : Ending → World → Prop) (w0 : World) (X0 : XS) (p0 : ByteArray) : Prop :=
 (eC Tryz.prog R X0 w0 true 85 #[(.string p0)] fun x4_3 w_4 X_5 =>
 rdV Tryz.prog X_5 w_4 (binOp .shr 129 x4_3 (Value.int IntKind.u64 11)) fun x5_6 =>
 rdV Tryz.prog X_5 w_4 (cvF 129 40 x5_6) fun x6_7 =>
 rdV Tryz.prog X_5 w_4 (binOp .quo 40 x6_7 (.float .f64 4845873199050653696)) fun x7_8 =>
 (fin R X_5 w_4 x7_8))
theorem ok_place_Of {R : Ending → World → Prop} {w0 : World} {p0 : ByteArray} (h : vc_place_Of R w0 (old w0) p0) : Calls Tryz.prog 64 #[(.string p0)] w0 R :=
  calls_of_vc (pl := pl_place_Of) Tryz.func64 (by kernel_rfl) (by kernel_rfl) h
noncomputable def pl_raceref11_May : Plan := ⟨21, [(1, (Tryz.prog.cellsOf 51))], [3, 7], [0, 2, 10, 20], [6, 8, 9, 16, 17, 18, 19], []⟩
def vc_raceref11_May (R : Ending → World → Prop) (w0 : World) (X0 : XS) (p0_0 p0_1 p0_2 p0_3 p0_4 p0_5 p0_6 p0_7 p0_8 p0_9 : Int) (p0_10 : Bool) (p0_11 : Int) (p0_12 : Nat) (p0_13 p0_14 p0_15 p0_16 : Value) (p0_17 p0_18 : Int) (p0_19 p0_20 : Nat) (p0_21 p0_22 p0_23 p0_24 p0_25 p0_26 : Int) (p0_27 p0_28 : Value) : Prop :=
 (rdV Tryz.prog X0 w0 (binOp .lss 3 (I p0_0) (I 1)) fun x5_4 =>
 un (gSel x5_4 false (I p0_0)) fun u_5 =>
 grdW Tryz.prog X0 w0 x5_4 false (vS (binOp .gtr 3 u_5 (I 12))) fun x9_6 =>
 rdW Tryz.prog X0 w0 (pickN x5_4 (B true) x9_6) fun x10_7 =>
 (condW x10_7
 (fin R X0 w0 (I 7))
 ((eC Tryz.prog R X0 w0 false 86 #[(.agg #[(I p0_0), (I p0_1), (I p0_2), (I p0_3), (I p0_4), (I p0_5), (I p0_6), (I p0_7), (I p0_8), (I p0_9), (B p0_10), (I p0_11), (.float .f64 p0_12), p0_13, p0_14, p0_15, p0_16, (I p0_17), (I p0_18), (.float .f64 p0_19), (.float .f64 p0_20), (I p0_21), (I p0_22), (I p0_23), (I p0_24), (I p0_25), (I p0_26), p0_27, p0_28])] fun x13_11 w_12 X_13 =>
 eC Tryz.prog R X_13 w_12 true 12 #[(.agg #[(I p0_0), (I p0_1), (I p0_2), (I p0_3), (I p0_4), (I p0_5), (I p0_6), (I p0_7), (I p0_8), (I p0_9), (B p0_10), (I p0_11), (.float .f64 p0_12), p0_13, p0_14, p0_15, p0_16, (I p0_17), (I p0_18), (.float .f64 p0_19), (.float .f64 p0_20), (I p0_21), (I p0_22), (I p0_23), (I p0_24), (I p0_25), (I p0_26), p0_27, p0_28]), x13_11] fun x14_14 w_15 X_16 =>
 rdV Tryz.prog X_16 w_15 (Op.unary UnOp.not x14_14) fun x15_17 =>
 un (gSel x15_17 false (.agg #[(I p0_0), (I p0_1), (I p0_2), (I p0_3), (I p0_4), (I p0_5), (I p0_6), (I p0_7), (I p0_8), (I p0_9), (B p0_10), (I p0_11), (.float .f64 p0_12), p0_13, p0_14, p0_15, p0_16, (I p0_17), (I p0_18), (.float .f64 p0_19), (.float .f64 p0_20), (I p0_21), (I p0_22), (I p0_23), (I p0_24), (I p0_25), (I p0_26), p0_27, p0_28])) fun u_18 =>
 jn (fun (x18_19 : Value) (w_20 : World) (X_21 : XS) =>
 grdW Tryz.prog X_21 w_20 x15_17 false (vS (Op.unary UnOp.not x18_19)) fun x19_23 =>
 rdW Tryz.prog X_21 w_20 (pickN x15_17 (B true) x19_23) fun x20_24 =>
 (condW x20_24
 (fin R X_21 w_20 (I 4))
 (fin R X_21 w_20 (I 0)))) fun k_22 =>
 (gE x15_17 false (eC Tryz.prog R X_16 w_15 true 87 #[u_18] k_22) (k_22 undef w_15 X_16))))))
theorem ok_raceref11_May {R : Ending → World → Prop} {w0 : World} {p0_0 p0_1 p0_2 p0_3 p0_4 p0_5 p0_6 p0_7 p0_8 p0_9 : Int} {p0_10 : Bool} {p0_11 : Int} {p0_12 : Nat} {p0_13 p0_14 p0_15 p0_16 : Value} {p0_17 p0_18 : Int} {p0_19 p0_20 : Nat} {p0_21 p0_22 p0_23 p0_24 p0_25 p0_26 : Int} {p0_27 p0_28 : Value} (h : vc_raceref11_May R w0 (old w0) p0_0 p0_1 p0_2 p0_3 p0_4 p0_5 p0_6 p0_7 p0_8 p0_9 p0_10 p0_11 p0_12 p0_13 p0_14 p0_15 p0_16 p0_17 p0_18 p0_19 p0_20 p0_21 p0_22 p0_23 p0_24 p0_25 p0_26 p0_27 p0_28) : Calls Tryz.prog 65 #[(.agg #[(I p0_0), (I p0_1), (I p0_2), (I p0_3), (I p0_4), (I p0_5), (I p0_6), (I p0_7), (I p0_8), (I p0_9), (B p0_10), (I p0_11), (.float .f64 p0_12), p0_13, p0_14, p0_15, p0_16, (I p0_17), (I p0_18), (.float .f64 p0_19), (.float .f64 p0_20), (I p0_21), (I p0_22), (I p0_23), (I p0_24), (I p0_25), (I p0_26), p0_27, p0_28])] w0 R :=
  calls_of_vc (pl := pl_raceref11_May) Tryz.func65 (by kernel_rfl) (by kernel_rfl) h
noncomputable def pl_raceref18_Tail_at : Plan := ⟨27, [(3, (Tryz.prog.cellsOf 39))], [], [0, 1, 4, 5, 12, 25], [], [5]⟩
def vc_raceref18_Tail_at (R : Ending → World → Prop) (w0 : World) (X0 : XS) (p0 : Value) (p1_0 p1_1 p1_2 : Int) : Prop :=
 ((lp1 X0 w0 (I 0) 5 fun J_5 n_6 v_10 w_8 X_9 =>
 rdW Tryz.prog X_9 w_8 (nilN p0) fun x8_13 =>
 rdV Tryz.prog X_9 w_8 (fld 37 3 5 1 x8_13) fun x9_14 =>
 rdV Tryz.prog X_9 w_8 (ld1 35 x9_14) fun x10_15 =>
 rdV Tryz.prog X_9 w_8 (lnS 35 3 x10_15) fun x11_16 =>
 rdV Tryz.prog X_9 w_8 (binOp .lss 3 v_10 x11_16) fun x12_17 =>
 (condW x12_17
 ((rdW Tryz.prog X_9 w_8 (nilN p0) fun x16_21 =>
 rdV Tryz.prog X_9 w_8 (fld 37 3 5 1 x16_21) fun x17_22 =>
 rdV Tryz.prog X_9 w_8 (ld1 35 x17_22) fun x18_23 =>
 rdV Tryz.prog X_9 w_8 (ixS 35 9 x18_23 v_10) fun x20_24 =>
 rdV Tryz.prog X_9 w_8 (fld 98 0 0 8 x20_24) fun x21_25 =>
 rdV Tryz.prog X_9 w_8 (fld 87 0 0 3 x21_25) fun x22_26 =>
 rdV Tryz.prog X_9 w_8 (ldA 39 3 x22_26) fun x23_27 =>
 rdV Tryz.prog X_9 w_8 (binS .eql 39 (.tmp 23) (.tmp 24) x23_27 (.agg #[(I p1_0), (I p1_1), (I p1_2)])) fun x25_28 =>
 (condW x25_28
 (fin R X_9 w_8 v_10)
 (((rdV Tryz.prog X_9 w_8 (binOp .add 3 v_10 (I 1)) fun x14_30 =>
 nx1 J_5 n_6 x14_30 w_8 X_9))))))
 ((((fin R X_9 w_8 (I (-1)))))))))
theorem ok_raceref18_Tail_at {R : Ending → World → Prop} {w0 : World} {p0 : Value} {p1_0 p1_1 p1_2 : Int} (h : vc_raceref18_Tail_at R w0 (old w0) p0 p1_0 p1_1 p1_2) : Calls Tryz.prog 66 #[p0, (.agg #[(I p1_0), (I p1_1), (I p1_2)])] w0 R :=
  calls_of_vc (pl := pl_raceref18_Tail_at) Tryz.func66 (by kernel_rfl) (by kernel_rfl) h
noncomputable def pl_raceref8_Less : Plan := ⟨9, [(2, (Tryz.prog.cellsOf 34)), (3, (Tryz.prog.cellsOf 34))], [], [0, 1, 4], [], []⟩
def vc_raceref8_Less (R : Ending → World → Prop) (w0 : World) (X0 : XS) (p0_0 p0_1 p0_2 p1_0 p1_1 p1_2 : Int) : Prop :=
 (eC Tryz.prog R X0 w0 true 88 #[(.agg #[(I p0_0), (I p0_1), (I p0_2)]), (.agg #[(I p1_0), (I p1_1), (I p1_2)])] fun x7_3 w_4 X_5 =>
 rdV Tryz.prog X_5 w_4 (binOp .lss 3 x7_3 (I 0)) fun x8_6 =>
 (fin R X_5 w_4 x8_6))
theorem ok_raceref8_Less {R : Ending → World → Prop} {w0 : World} {p0_0 p0_1 p0_2 p1_0 p1_1 p1_2 : Int} (h : vc_raceref8_Less R w0 (old w0) p0_0 p0_1 p0_2 p1_0 p1_1 p1_2) : Calls Tryz.prog 67 #[(.agg #[(I p0_0), (I p0_1), (I p0_2)]), (.agg #[(I p1_0), (I p1_1), (I p1_2)])] w0 R :=
  calls_of_vc (pl := pl_raceref8_Less) Tryz.func67 (by kernel_rfl) (by kernel_rfl) h
noncomputable def pl_raceref10_TxnLess : Plan := ⟨32, [(2, (Tryz.prog.cellsOf 39)), (3, (Tryz.prog.cellsOf 39))], [6, 8, 11, 13, 17, 19, 22, 24, 27, 29], [0, 1, 4, 5, 16], [], []⟩
def vc_raceref10_TxnLess (R : Ending → World → Prop) (w0 : World) (X0 : XS) (p0_0 p0_1 p0_2 p1_0 p1_1 p1_2 : Int) : Prop :=
 (rdV Tryz.prog X0 w0 (binS .neq 3 (.tmp 7) (.tmp 9) (I p0_0) (I p1_0)) fun x10_5 =>
 (condW x10_5
 (rdV Tryz.prog X0 w0 (binOp .lss 3 (I p0_0) (I p1_0)) fun x15_7 =>
 (fin R X0 w0 x15_7))
 (rdV Tryz.prog X0 w0 (binS .neq 3 (.tmp 18) (.tmp 20) (I p0_1) (I p1_1)) fun x21_9 =>
 (condW x21_9
 (rdV Tryz.prog X0 w0 (binOp .lss 3 (I p0_1) (I p1_1)) fun x26_11 =>
 (fin R X0 w0 x26_11))
 (((rdV Tryz.prog X0 w0 (binOp .lss 3 (I p0_2) (I p1_2)) fun x31_13 =>
 (fin R X0 w0 x31_13))))))))
theorem ok_raceref10_TxnLess {R : Ending → World → Prop} {w0 : World} {p0_0 p0_1 p0_2 p1_0 p1_1 p1_2 : Int} (h : vc_raceref10_TxnLess R w0 (old w0) p0_0 p0_1 p0_2 p1_0 p1_1 p1_2) : Calls Tryz.prog 68 #[(.agg #[(I p0_0), (I p0_1), (I p0_2)]), (.agg #[(I p1_0), (I p1_1), (I p1_2)])] w0 R :=
  calls_of_vc (pl := pl_raceref10_TxnLess) Tryz.func68 (by kernel_rfl) (by kernel_rfl) h
noncomputable def pl_raceref_CopyPending : Plan := ⟨14, [(1, (Tryz.prog.cellsOf 87)), (2, (Tryz.prog.cellsOf 87))], [3, 5, 7, 10], [0], [], []⟩
def vc_raceref_CopyPending (R : Ending → World → Prop) (w0 : World) (X0 : XS) (p0_0 p0_1 p0_2 p0_3 p0_4 p0_5 : Int) (p0_6 p0_7 : Value) : Prop :=
 (eC Tryz.prog R X0 w0 false 22 #[p0_6] fun x9_3 w_4 X_5 =>
 eC Tryz.prog R X_5 w_4 false 23 #[p0_7] fun x12_6 w_7 X_8 =>
 rdV Tryz.prog X_8 w_7 (bld 87 #[(I p0_0), (I p0_1), (I p0_2), (I p0_3), (I p0_4), (I p0_5), x9_3, x12_6] #[(0, (.agg #[(I p0_0), (I p0_1), (I p0_2)])), (1, (.agg #[(I p0_3), (I p0_4), (I p0_5)])), (2, x9_3), (3, x12_6)]) fun x13_9 =>
 un (Value.agg (Value.cells x13_9)) fun u_10 =>
 chk (List.length (Array.toList (Value.cells x13_9)) == 8) (chk (List.all (Array.toList (Value.cells x13_9)) one) (un (subOf u_10 0 8) fun u_11 =>
 chk (List.all [u_10] isA) (fin R X_8 w_7 u_11))))
theorem ok_raceref_CopyPending {R : Ending → World → Prop} {w0 : World} {p0_0 p0_1 p0_2 p0_3 p0_4 p0_5 : Int} {p0_6 p0_7 : Value} (h : vc_raceref_CopyPending R w0 (old w0) p0_0 p0_1 p0_2 p0_3 p0_4 p0_5 p0_6 p0_7) : Calls Tryz.prog 69 #[(.agg #[(I p0_0), (I p0_1), (I p0_2), (I p0_3), (I p0_4), (I p0_5), p0_6, p0_7])] w0 R :=
  calls_of_vc (pl := pl_raceref_CopyPending) Tryz.func69 (by kernel_rfl) (by kernel_rfl) h
noncomputable def pl_raceref15_below : Plan := ⟨9, [], [], [0, 1, 4], [], []⟩
def vc_raceref15_below (R : Ending → World → Prop) (w0 : World) (X0 : XS) (p0 : ByteArray) (p1 : Nat) : Prop :=
 (eC Tryz.prog R X0 w0 true 89 #[(.string p0)] fun x6_3 w_4 X_5 =>
 rdV Tryz.prog X_5 w_4 (binOp .lss 40 x6_3 (.float .f64 p1)) fun x8_6 =>
 (fin R X_5 w_4 x8_6))
theorem ok_raceref15_below {R : Ending → World → Prop} {w0 : World} {p0 : ByteArray} {p1 : Nat} (h : vc_raceref15_below R w0 (old w0) p0 p1) : Calls Tryz.prog 70 #[(.string p0), (.float .f64 p1)] w0 R :=
  calls_of_vc (pl := pl_raceref15_below) Tryz.func70 (by kernel_rfl) (by kernel_rfl) h
noncomputable def pl_raceref8_Prior : Plan := ⟨40, [(1, (Tryz.prog.cellsOf 34)), (2, (Tryz.prog.cellsOf 34))], [15, 18, 20, 22, 27, 30, 32, 36], [0, 3, 4, 14, 26], [8, 9, 10, 11], []⟩
def vc_raceref8_Prior (R : Ending → World → Prop) (w0 : World) (X0 : XS) (p0_0 p0_1 p0_2 : Int) : Prop :=
 (eC Tryz.prog R X0 w0 true 90 #[(.agg #[(I p0_0), (I p0_1), (I p0_2)])] fun x6_5 w_6 X_7 =>
 rdV Tryz.prog X_7 w_6 (Op.unary UnOp.not x6_5) fun x7_8 =>
 un (gSel x7_8 false (.agg #[(I p0_0), (I p0_1), (I p0_2)])) fun u_9 =>
 grdW Tryz.prog X_7 w_6 x7_8 false (vS (bld 34 #[(I 0), (I 0), (I 0)] #[])) fun x10_10 =>
 grdW Tryz.prog X_7 w_6 x7_8 false (vS (binS .eql 34 (.tmp 9) (.tmp 10) u_9 x10_10)) fun x11_11 =>
 rdW Tryz.prog X_7 w_6 (pickN x7_8 (B true) x11_11) fun x12_12 =>
 (condW x12_12
 (rdV Tryz.prog X_7 w_6 (bld 34 #[(I 0), (I 0), (I 0)] #[]) fun x13_14 =>
 un (Value.agg (Value.cells x13_14)) fun u_15 =>
 chk (List.length (Array.toList (Value.cells x13_14)) == 3) (chk (List.all (Array.toList (Value.cells x13_14)) one) ((un (subOf u_15 0 3) fun u_16 =>
 chk (List.all [u_15] isA) (fin R X_7 w_6 (Value.tuple #[u_16, (B false)]))))))
 (rdV Tryz.prog X_7 w_6 (binOp .gtr 3 (I p0_2) (I 0)) fun x17_18 =>
 (condW x17_18
 (rdV Tryz.prog X_7 w_6 (binOp .sub 3 (I p0_2) (I 1)) fun x24_20 =>
 rdV Tryz.prog X_7 w_6 (bld 34 #[(I p0_0), (I p0_1), x24_20] #[(0, (I p0_0)), (1, (I p0_1)), (2, x24_20)]) fun x25_21 =>
 un (Value.agg (Value.cells x25_21)) fun u_22 =>
 chk (List.length (Array.toList (Value.cells x25_21)) == 3) (chk (List.all (Array.toList (Value.cells x25_21)) one) ((un (subOf u_22 0 3) fun u_23 =>
 chk (List.all [u_22] isA) (fin R X_7 w_6 (Value.tuple #[u_23, (B true)]))))))
 (rdV Tryz.prog X_7 w_6 (binOp .gtr 3 (I p0_1) (I 0)) fun x29_25 =>
 (condW x29_25
 (rdV Tryz.prog X_7 w_6 (binOp .sub 3 (I p0_1) (I 1)) fun x34_27 =>
 rdV Tryz.prog X_7 w_6 (bld 34 #[(I p0_0), x34_27, (I 63)] #[(0, (I p0_0)), (1, x34_27), (2, (I 63))]) fun x35_28 =>
 un (Value.agg (Value.cells x35_28)) fun u_29 =>
 chk (List.length (Array.toList (Value.cells x35_28)) == 3) (chk (List.all (Array.toList (Value.cells x35_28)) one) ((un (subOf u_29 0 3) fun u_30 =>
 chk (List.all [u_29] isA) (fin R X_7 w_6 (Value.tuple #[u_30, (B true)]))))))
 (((rdV Tryz.prog X_7 w_6 (binOp .sub 3 (I p0_0) (I 1)) fun x38_32 =>
 rdV Tryz.prog X_7 w_6 (bld 34 #[x38_32, (I 65535), (I 63)] #[(0, x38_32), (1, (I 65535)), (2, (I 63))]) fun x39_33 =>
 un (Value.agg (Value.cells x39_33)) fun u_34 =>
 chk (List.length (Array.toList (Value.cells x39_33)) == 3) (chk (List.all (Array.toList (Value.cells x39_33)) one) ((un (subOf u_34 0 3) fun u_35 =>
 chk (List.all [u_34] isA) (fin R X_7 w_6 (Value.tuple #[u_35, (B true)]))))))))))))))
theorem ok_raceref8_Prior {R : Ending → World → Prop} {w0 : World} {p0_0 p0_1 p0_2 : Int} (h : vc_raceref8_Prior R w0 (old w0) p0_0 p0_1 p0_2) : Calls Tryz.prog 71 #[(.agg #[(I p0_0), (I p0_1), (I p0_2)])] w0 R :=
  calls_of_vc (pl := pl_raceref8_Prior) Tryz.func71 (by kernel_rfl) (by kernel_rfl) h
noncomputable def pl_raceref_Value : Plan := ⟨24, [(2, (Tryz.prog.cellsOf 64)), (3, (Tryz.prog.cellsOf 64))], [5, 7, 11, 13, 18, 20], [0, 1, 4], [10, 12, 14, 15, 17, 19, 21, 22], []⟩
def vc_raceref_Value (R : Ending → World → Prop) (w0 : World) (X0 : XS) (p0_0 : Int) (p0_1 : Nat) (p0_2 : ByteArray) (p1_0 : Int) (p1_1 : Nat) (p1_2 : ByteArray) : Prop :=
 (rdV Tryz.prog X0 w0 (binS .eql 3 (.tmp 6) (.tmp 8) (I p0_0) (I p1_0)) fun x9_3 =>
 un (gSel x9_3 true (.string p0_2)) fun u_4 =>
 un (gSel x9_3 true (.string p1_2)) fun u_5 =>
 grdW Tryz.prog X0 w0 x9_3 true (vS (binS .eql 9 (.tmp 12) (.tmp 14) u_4 u_5)) fun x15_6 =>
 rdW Tryz.prog X0 w0 (pickN x9_3 x15_6 (B false)) fun x16_7 =>
 un (gSel x16_7 true (.float .f64 p0_1)) fun u_8 =>
 un (gSel x16_7 true (.float .f64 p1_1)) fun u_9 =>
 jn (fun (x22_10 : Value) (w_11 : World) (X_12 : XS) =>
 rdW Tryz.prog X_12 w_11 (pickN x16_7 x22_10 (B false)) fun x23_14 =>
 (fin R X_12 w_11 x23_14)) fun k_13 =>
 (gE x16_7 true (eC Tryz.prog R X0 w0 true 37 #[u_8, u_9] k_13) (k_13 undef w0 X0)))
theorem ok_raceref_Value {R : Ending → World → Prop} {w0 : World} {p0_0 : Int} {p0_1 : Nat} {p0_2 : ByteArray} {p1_0 : Int} {p1_1 : Nat} {p1_2 : ByteArray} (h : vc_raceref_Value R w0 (old w0) p0_0 p0_1 p0_2 p1_0 p1_1 p1_2) : Calls Tryz.prog 73 #[(.agg #[(I p0_0), (.float .f64 p0_1), (.string p0_2)]), (.agg #[(I p1_0), (.float .f64 p1_1), (.string p1_2)])] w0 R :=
  calls_of_vc (pl := pl_raceref_Value) Tryz.func73 (by kernel_rfl) (by kernel_rfl) h
noncomputable def pl_raceref_Range : Plan := ⟨31, [(2, (Tryz.prog.cellsOf 45)), (3, (Tryz.prog.cellsOf 45))], [5, 7, 11, 13, 18, 20, 25, 27], [0, 1, 4], [10, 12, 14, 15, 17, 19, 21, 22, 24, 26, 28, 29], []⟩
def vc_raceref_Range (R : Ending → World → Prop) (w0 : World) (X0 : XS) (p0_0 p0_1 : Int) (p0_2 p0_3 : Nat) (p1_0 p1_1 : Int) (p1_2 p1_3 : Nat) : Prop :=
 (rdV Tryz.prog X0 w0 (binS .eql 3 (.tmp 6) (.tmp 8) (I p0_0) (I p1_0)) fun x9_3 =>
 un (gSel x9_3 true (I p0_1)) fun u_4 =>
 un (gSel x9_3 true (I p1_1)) fun u_5 =>
 grdW Tryz.prog X0 w0 x9_3 true (vS (binS .eql 3 (.tmp 12) (.tmp 14) u_4 u_5)) fun x15_6 =>
 rdW Tryz.prog X0 w0 (pickN x9_3 x15_6 (B false)) fun x16_7 =>
 un (gSel x16_7 true (.float .f64 p0_2)) fun u_8 =>
 un (gSel x16_7 true (.float .f64 p1_2)) fun u_9 =>
 jn (fun (x22_10 : Value) (w_11 : World) (X_12 : XS) =>
 rdW Tryz.prog X_12 w_11 (pickN x16_7 x22_10 (B false)) fun x23_14 =>
 un (gSel x23_14 true (.float .f64 p0_3)) fun u_15 =>
 un (gSel x23_14 true (.float .f64 p1_3)) fun u_16 =>
 jn (fun (x29_17 : Value) (w_18 : World) (X_19 : XS) =>
 rdW Tryz.prog X_19 w_18 (pickN x23_14 x29_17 (B false)) fun x30_21 =>
 (fin R X_19 w_18 x30_21)) fun k_20 =>
 (gE x23_14 true (eC Tryz.prog R X_12 w_11 true 37 #[u_15, u_16] k_20) (k_20 undef w_11 X_12))) fun k_13 =>
 (gE x16_7 true (eC Tryz.prog R X0 w0 true 37 #[u_8, u_9] k_13) (k_13 undef w0 X0)))
theorem ok_raceref_Range {R : Ending → World → Prop} {w0 : World} {p0_0 p0_1 : Int} {p0_2 p0_3 : Nat} {p1_0 p1_1 : Int} {p1_2 p1_3 : Nat} (h : vc_raceref_Range R w0 (old w0) p0_0 p0_1 p0_2 p0_3 p1_0 p1_1 p1_2 p1_3) : Calls Tryz.prog 74 #[(.agg #[(I p0_0), (I p0_1), (.float .f64 p0_2), (.float .f64 p0_3)]), (.agg #[(I p1_0), (I p1_1), (.float .f64 p1_2), (.float .f64 p1_3)])] w0 R :=
  calls_of_vc (pl := pl_raceref_Range) Tryz.func74 (by kernel_rfl) (by kernel_rfl) h
noncomputable def pl_raceref_Histories : Plan := ⟨85, [(7, (Tryz.prog.cellsOf 144)), (8, (Tryz.prog.cellsOf 144))], [72, 74, 78, 80], [0, 1, 4, 5, 6, 13, 17, 45, 53, 84], [31, 32, 33, 34, 35, 36, 37, 38, 39, 40, 41, 42, 43, 44, 77, 79, 81, 82, 83], [5, 6]⟩
def vc_raceref_Histories (R : Ending → World → Prop) (w0 : World) (X0 : XS) (p0 p1 : Value) : Prop :=
 (rdV Tryz.prog X0 w0 (lnS 46 3 p0) fun x10_4 =>
 rdV Tryz.prog X0 w0 (lnS 46 3 p1) fun x12_5 =>
 rdV Tryz.prog X0 w0 (binS .neq 3 (.tmp 10) (.tmp 12) x10_4 x12_5) fun x13_6 =>
 (condW x13_6
 (fin R X0 w0 (B false))
 (((lp2 X0 w0 (I 0) undef 5 6 fun J_11 n_12 v_16 _ w_14 X_15 =>
 rdV Tryz.prog X_15 w_14 (lnS 46 3 p0) fun x16_20 =>
 rdV Tryz.prog X_15 w_14 (binOp .lss 3 v_16 x16_20) fun x17_21 =>
 (condW x17_21
 ((rdV Tryz.prog X_15 w_14 (ixS 46 2 p0 v_16) fun x22_26 =>
 rdV Tryz.prog X_15 w_14 (fld 142 0 0 1 x22_26) fun x23_27 =>
 rdV Tryz.prog X_15 w_14 (ld1 9 x23_27) fun x24_28 =>
 rdV Tryz.prog X_15 w_14 (ixS 46 2 p1 v_16) fun x27_29 =>
 rdV Tryz.prog X_15 w_14 (fld 142 0 0 1 x27_29) fun x28_30 =>
 rdV Tryz.prog X_15 w_14 (ld1 9 x28_30) fun x29_31 =>
 rdV Tryz.prog X_15 w_14 (binS .neq 9 (.tmp 24) (.tmp 29) x24_28 x29_31) fun x30_32 =>
 un (gSel x30_32 false p0) fun u_33 =>
 un (gSel x30_32 false v_16) fun u_34 =>
 grdW Tryz.prog X_15 w_14 x30_32 false (vS (ixS 46 2 u_33 u_34)) fun x34_35 =>
 grdW Tryz.prog X_15 w_14 x30_32 false (vS (fld 142 1 1 1 x34_35)) fun x35_36 =>
 grdW Tryz.prog X_15 w_14 x30_32 false (vS (ld1 140 x35_36)) fun x36_37 =>
 grdW Tryz.prog X_15 w_14 x30_32 false (vS (lnS 140 3 x36_37)) fun x37_38 =>
 un (gSel x30_32 false p1) fun u_39 =>
 grdW Tryz.prog X_15 w_14 x30_32 false (vS (ixS 46 2 u_39 u_34)) fun x40_40 =>
 grdW Tryz.prog X_15 w_14 x30_32 false (vS (fld 142 1 1 1 x40_40)) fun x41_41 =>
 grdW Tryz.prog X_15 w_14 x30_32 false (vS (ld1 140 x41_41)) fun x42_42 =>
 grdW Tryz.prog X_15 w_14 x30_32 false (vS (lnS 140 3 x42_42)) fun x43_43 =>
 grdW Tryz.prog X_15 w_14 x30_32 false (vS (binS .neq 3 (.tmp 37) (.tmp 43) x37_38 x43_43)) fun x44_44 =>
 rdW Tryz.prog X_15 w_14 (pickN x30_32 (B true) x44_44) fun x45_45 =>
 (condW x45_45
 (fin R X_15 w_14 (B false))
 (((lp1 X_15 w_14 (I 0) 6 fun J_49 n_50 v_54 w_52 X_53 =>
 rdV Tryz.prog X_53 w_52 (ixS 46 2 p0 v_16) fun x49_57 =>
 rdV Tryz.prog X_53 w_52 (fld 142 1 1 1 x49_57) fun x50_58 =>
 rdV Tryz.prog X_53 w_52 (ld1 140 x50_58) fun x51_59 =>
 rdV Tryz.prog X_53 w_52 (lnS 140 3 x51_59) fun x52_60 =>
 rdV Tryz.prog X_53 w_52 (binOp .lss 3 v_54 x52_60) fun x53_61 =>
 (condW x53_61
 ((rdV Tryz.prog X_53 w_52 (ixS 46 2 p0 v_16) fun x58_65 =>
 rdV Tryz.prog X_53 w_52 (fld 142 1 1 1 x58_65) fun x59_66 =>
 rdV Tryz.prog X_53 w_52 (ld1 140 x59_66) fun x60_67 =>
 rdV Tryz.prog X_53 w_52 (ixS 140 6 x60_67 v_54) fun x62_68 =>
 rdV Tryz.prog X_53 w_52 (ldA 144 6 x62_68) fun x63_69 =>
 rdV Tryz.prog X_53 w_52 (ixS 46 2 p1 v_16) fun x66_70 =>
 rdV Tryz.prog X_53 w_52 (fld 142 1 1 1 x66_70) fun x67_71 =>
 rdV Tryz.prog X_53 w_52 (ld1 140 x67_71) fun x68_72 =>
 rdV Tryz.prog X_53 w_52 (ixS 140 6 x68_72 v_54) fun x70_73 =>
 rdV Tryz.prog X_53 w_52 (ldA 144 6 x70_73) fun x71_74 =>
 un (Value.agg (Value.cells x63_69)) fun u_75 =>
 chk (List.length (Array.toList (Value.cells x63_69)) == 6) (chk (List.all (Array.toList (Value.cells x63_69)) one) (un (Value.agg (Value.cells x71_74)) fun u_76 =>
 chk (List.length (Array.toList (Value.cells x71_74)) == 6) (chk (List.all (Array.toList (Value.cells x71_74)) one) ((chk (isA u_75) (chk (isA u_76) (un (subOf u_75 0 3) fun u_78 =>
 un (subOf u_76 0 3) fun u_79 =>
 rdV Tryz.prog X_53 w_52 (binS .neq 34 (.tmp 73) (.tmp 75) u_78 u_79) fun x76_80 =>
 un (subOf u_75 3 3) fun u_81 =>
 un (gSel x76_80 false u_81) fun u_82 =>
 un (subOf u_76 3 3) fun u_83 =>
 un (gSel x76_80 false u_83) fun u_84 =>
 jn (fun (x82_85 : Value) (w_86 : World) (X_87 : XS) =>
 grdW Tryz.prog X_87 w_86 x76_80 false (vS (Op.unary UnOp.not x82_85)) fun x83_89 =>
 rdW Tryz.prog X_87 w_86 (pickN x76_80 (B true) x83_89) fun x84_90 =>
 (condW x84_90
 (fin R X_87 w_86 (B false))
 (((rdV Tryz.prog X_87 w_86 (binOp .add 3 v_54 (I 1)) fun x55_92 =>
 nx1 J_49 n_50 x55_92 w_86 X_87))))) fun k_88 =>
 (gE x76_80 false (eC Tryz.prog R X_53 w_52 true 73 #[u_82, u_84] k_88) (k_88 undef w_52 X_53)))))))))))
 ((((rdV Tryz.prog X_53 w_52 (binOp .add 3 v_16 (I 1)) fun x19_93 =>
 nx2 J_11 n_12 x19_93 v_54 w_52 X_53)))))))))))
 (fin R X_15 w_14 (B true))))))))
theorem ok_raceref_Histories {R : Ending → World → Prop} {w0 : World} {p0 p1 : Value} (h : vc_raceref_Histories R w0 (old w0) p0 p1) : Calls Tryz.prog 75 #[p0, p1] w0 R :=
  calls_of_vc (pl := pl_raceref_Histories) Tryz.func75 (by kernel_rfl) (by kernel_rfl) h
noncomputable def pl_hlc_May : Plan := ⟨31, [(1, (Tryz.prog.cellsOf 34))], [3, 7, 12, 17, 22, 27], [0, 2], [6, 8, 9, 11, 13, 14, 16, 18, 19, 21, 23, 24, 26, 28, 29], []⟩
def vc_hlc_May (R : Ending → World → Prop) (w0 : World) (X0 : XS) (p0_0 p0_1 p0_2 : Int) : Prop :=
 (rdV Tryz.prog X0 w0 (binOp .geq 3 (I p0_0) (I 0)) fun x5_3 =>
 un (gSel x5_3 true (I p0_0)) fun u_4 =>
 grdW Tryz.prog X0 w0 x5_3 true (vS (binOp .leq 3 u_4 (I 281474976710656))) fun x9_5 =>
 rdW Tryz.prog X0 w0 (pickN x5_3 x9_5 (B false)) fun x10_6 =>
 un (gSel x10_6 true (I p0_1)) fun u_7 =>
 grdW Tryz.prog X0 w0 x10_6 true (vS (binOp .geq 3 u_7 (I 0))) fun x14_8 =>
 rdW Tryz.prog X0 w0 (pickN x10_6 x14_8 (B false)) fun x15_9 =>
 un (gSel x15_9 true (I p0_1)) fun u_10 =>
 grdW Tryz.prog X0 w0 x15_9 true (vS (binOp .leq 3 u_10 (I 65535))) fun x19_11 =>
 rdW Tryz.prog X0 w0 (pickN x15_9 x19_11 (B false)) fun x20_12 =>
 un (gSel x20_12 true (I p0_2)) fun u_13 =>
 grdW Tryz.prog X0 w0 x20_12 true (vS (binOp .geq 3 u_13 (I 0))) fun x24_14 =>
 rdW Tryz.prog X0 w0 (pickN x20_12 x24_14 (B false)) fun x25_15 =>
 un (gSel x25_15 true (I p0_2)) fun u_16 =>
 grdW Tryz.prog X0 w0 x25_15 true (vS (binOp .leq 3 u_16 (I 63))) fun x29_17 =>
 rdW Tryz.prog X0 w0 (pickN x25_15 x29_17 (B false)) fun x30_18 =>
 (fin R X0 w0 x30_18))
theorem ok_hlc_May {R : Ending → World → Prop} {w0 : World} {p0_0 p0_1 p0_2 : Int} (h : vc_hlc_May R w0 (old w0) p0_0 p0_1 p0_2) : Calls Tryz.prog 78 #[(.agg #[(I p0_0), (I p0_1), (I p0_2)])] w0 R :=
  calls_of_vc (pl := pl_hlc_May) Tryz.func78 (by kernel_rfl) (by kernel_rfl) h
noncomputable def pl_raceref_WeighHistories : Plan := ⟨60, [], [], [0, 1, 4, 5, 6, 7, 16, 41], [12, 13, 14, 15, 37, 38, 39, 40], [5, 6, 7]⟩
def vc_raceref_WeighHistories (R : Ending → World → Prop) (w0 : World) (X0 : XS) (p0 : Value) (p1 : Int) : Prop :=
 (((lp3 X0 w0 (I 0) undef (I 0) 6 7 5 fun J_6 n_7 v_11 _ v_13 w_9 X_10 =>
 rdV Tryz.prog X_10 w_9 (lnS 46 3 p0) fun x10_16 =>
 rdV Tryz.prog X_10 w_9 (binOp .lss 3 v_11 x10_16) fun x11_17 =>
 un (gSel x11_17 true v_13) fun u_18 =>
 un (gSel x11_17 true (I p1)) fun u_19 =>
 grdW Tryz.prog X_10 w_9 x11_17 true (vS (binOp .leq 3 u_18 u_19)) fun x15_20 =>
 rdW Tryz.prog X_10 w_9 (pickN x11_17 x15_20 (B false)) fun x16_21 =>
 (condW x16_21
 ((rdV Tryz.prog X_10 w_9 (ixS 46 2 p0 v_11) fun x22_25 =>
 rdV Tryz.prog X_10 w_9 (fld 142 0 0 1 x22_25) fun x23_26 =>
 rdV Tryz.prog X_10 w_9 (ld1 9 x23_26) fun x24_27 =>
 rdV Tryz.prog X_10 w_9 (lnT 9 3 x24_27) fun x25_28 =>
 rdV Tryz.prog X_10 w_9 (binOp .add 3 (I 1) x25_28) fun x26_29 =>
 eC Tryz.prog R X_10 w_9 true 52 #[v_13, x26_29, (I p1)] fun x28_30 w_31 X_32 =>
 ((lp2 X_32 w_31 (I 0) x28_30 7 5 fun J_35 n_36 v_40 v_41 w_38 X_39 =>
 rdV Tryz.prog X_39 w_38 (ixS 46 2 p0 v_11) fun x32_44 =>
 rdV Tryz.prog X_39 w_38 (fld 142 1 1 1 x32_44) fun x33_45 =>
 rdV Tryz.prog X_39 w_38 (ld1 140 x33_45) fun x34_46 =>
 rdV Tryz.prog X_39 w_38 (lnS 140 3 x34_46) fun x35_47 =>
 rdV Tryz.prog X_39 w_38 (binOp .lss 3 v_40 x35_47) fun x36_48 =>
 un (gSel x36_48 true v_41) fun u_49 =>
 un (gSel x36_48 true (I p1)) fun u_50 =>
 grdW Tryz.prog X_39 w_38 x36_48 true (vS (binOp .leq 3 u_49 u_50)) fun x40_51 =>
 rdW Tryz.prog X_39 w_38 (pickN x36_48 x40_51 (B false)) fun x41_52 =>
 (condW x41_52
 ((rdV Tryz.prog X_39 w_38 (ixS 46 2 p0 v_11) fun x47_55 =>
 rdV Tryz.prog X_39 w_38 (fld 142 1 1 1 x47_55) fun x48_56 =>
 rdV Tryz.prog X_39 w_38 (ld1 140 x48_56) fun x49_57 =>
 rdV Tryz.prog X_39 w_38 (ixS 140 6 x49_57 v_40) fun x51_58 =>
 rdV Tryz.prog X_39 w_38 (fld 144 1 3 3 x51_58) fun x52_59 =>
 rdV Tryz.prog X_39 w_38 (fld 64 2 2 1 x52_59) fun x53_60 =>
 rdV Tryz.prog X_39 w_38 (ld1 9 x53_60) fun x54_61 =>
 rdV Tryz.prog X_39 w_38 (lnT 9 3 x54_61) fun x55_62 =>
 rdV Tryz.prog X_39 w_38 (binOp .add 3 (I 1) x55_62) fun x56_63 =>
 eC Tryz.prog R X_39 w_38 true 52 #[v_41, x56_63, (I p1)] fun x58_64 w_65 X_66 =>
 ((rdV Tryz.prog X_66 w_65 (binOp .add 3 v_40 (I 1)) fun x43_67 =>
 nx2 J_35 n_36 x43_67 x58_64 w_65 X_66))))
 ((((rdV Tryz.prog X_39 w_38 (binOp .add 3 v_11 (I 1)) fun x18_68 =>
 nx3 J_6 n_7 x18_68 v_40 v_41 w_38 X_39)))))))))
 (fin R X_10 w_9 v_13)))))
theorem ok_raceref_WeighHistories {R : Ending → World → Prop} {w0 : World} {p0 : Value} {p1 : Int} (h : vc_raceref_WeighHistories R w0 (old w0) p0 p1) : Calls Tryz.prog 79 #[p0, (I p1)] w0 R :=
  calls_of_vc (pl := pl_raceref_WeighHistories) Tryz.func79 (by kernel_rfl) (by kernel_rfl) h
noncomputable def pl_raceref_WeighPendings : Plan := ⟨39, [], [], [0, 1, 4, 5, 6, 15], [11, 12, 13, 14, 18], [5, 6]⟩
def vc_raceref_WeighPendings (R : Ending → World → Prop) (w0 : World) (X0 : XS) (p0 : Value) (p1 : Int) : Prop :=
 (((lp2 X0 w0 (I 0) (I 0) 6 5 fun J_6 n_7 v_11 v_12 w_9 X_10 =>
 rdV Tryz.prog X_10 w_9 (lnS 47 3 p0) fun x9_15 =>
 rdV Tryz.prog X_10 w_9 (binOp .lss 3 v_11 x9_15) fun x10_16 =>
 un (gSel x10_16 true v_12) fun u_17 =>
 un (gSel x10_16 true (I p1)) fun u_18 =>
 grdW Tryz.prog X_10 w_9 x10_16 true (vS (binOp .leq 3 u_17 u_18)) fun x14_19 =>
 rdW Tryz.prog X_10 w_9 (pickN x10_16 x14_19 (B false)) fun x15_20 =>
 (condW x15_20
 ((rdV Tryz.prog X_10 w_9 (ixS 47 8 p0 v_11) fun x21_23 =>
 rdV Tryz.prog X_10 w_9 (fld 87 2 6 1 x21_23) fun x22_24 =>
 rdV Tryz.prog X_10 w_9 (ld1 41 x22_24) fun x23_25 =>
 rdV Tryz.prog X_10 w_9 (ixS 47 8 p0 v_11) fun x31_26 =>
 rdV Tryz.prog X_10 w_9 (fld 87 3 7 1 x31_26) fun x32_27 =>
 rdV Tryz.prog X_10 w_9 (ld1 42 x32_27) fun x33_28 =>
 eC Tryz.prog R X_10 w_9 false 53 #[x23_25, (I p1)] fun x25_29 w_30 X_31 =>
 rdV Tryz.prog X_31 w_30 (binOp .add 3 (I 1) x25_29) fun x26_32 =>
 eC Tryz.prog R X_31 w_30 false 52 #[v_12, x26_32, (I p1)] fun x28_33 w_34 X_35 =>
 eC Tryz.prog R X_35 w_34 false 54 #[x33_28, (I p1)] fun x35_36 w_37 X_38 =>
 eC Tryz.prog R X_38 w_37 true 52 #[x28_33, x35_36, (I p1)] fun x37_39 w_40 X_41 =>
 ((rdV Tryz.prog X_41 w_40 (binOp .add 3 v_11 (I 1)) fun x17_42 =>
 nx2 J_6 n_7 x17_42 x37_39 w_40 X_41))))
 (fin R X_10 w_9 v_12)))))
theorem ok_raceref_WeighPendings {R : Ending → World → Prop} {w0 : World} {p0 : Value} {p1 : Int} (h : vc_raceref_WeighPendings R w0 (old w0) p0 p1) : Calls Tryz.prog 80 #[p0, (I p1)] w0 R :=
  calls_of_vc (pl := pl_raceref_WeighPendings) Tryz.func80 (by kernel_rfl) (by kernel_rfl) h
noncomputable def pl_recs_without : Plan := ⟨68, [(1, (Tryz.prog.cellsOf 51)), (2, (Tryz.prog.cellsOf 51))], [4, 10, 15, 20, 21, 22, 23, 24, 29, 30, 31, 35, 39, 40, 41, 46, 47, 48, 52, 58, 59, 60, 61, 65, 66], [0, 3, 5, 7, 11, 16, 25, 32, 36, 42, 49, 53, 62], [], []⟩
def vc_recs_without (R : Ending → World → Prop) (w0 : World) (X0 : XS) (p0_0 p0_1 p0_2 p0_3 p0_4 p0_5 p0_6 p0_7 p0_8 p0_9 : Int) (p0_10 : Bool) (p0_11 : Int) (p0_12 : Nat) (p0_13 p0_14 p0_15 p0_16 : Value) (p0_17 p0_18 : Int) (p0_19 p0_20 : Nat) (p0_21 p0_22 p0_23 p0_24 p0_25 p0_26 : Int) (p0_27 p0_28 : Value) : Prop :=
 (((jn (fun (y1_67 : Value) =>
 (chk (isA y1_67) (un (subOf y1_67 0 29) fun u_70 =>
 un (Value.agg (Value.cells u_70)) fun u_71 =>
 chk (List.length (Array.toList (Value.cells u_70)) == 29) (chk (List.all (Array.toList (Value.cells u_70)) one) ((un (subOf u_71 0 29) fun u_72 =>
 chk (List.all [u_71] isA) (fin R X0 w0 (Value.tuple #[u_72, (B true)])))))))) fun k_68 =>
 rdV Tryz.prog X0 w0 (binS .eql 3 (.tmp 5) (.const (I 1)) (I p0_0) (I 1)) fun x8_6 =>
 (condW x8_6
 (rdV Tryz.prog X0 w0 (bld 49 #[(I 0), (I 0), (.float .f64 0), (.float .f64 0), (I 0), (I 0), (I 0), (I 0), (I 0), (I 0), (.slice none 0 0), (.slice none 0 0)] #[]) fun x9_7 =>
 un (Value.agg (List.toArray (setL [(I p0_0), (I p0_1), (I p0_2), (I p0_3), (I p0_4), (I p0_5), (I p0_6), (I p0_7), (I p0_8), (I p0_9), (B p0_10), (I p0_11), (.float .f64 p0_12), p0_13, p0_14, p0_15, p0_16, (I p0_17), (I p0_18), (.float .f64 p0_19), (.float .f64 p0_20), (I p0_21), (I p0_22), (I p0_23), (I p0_24), (I p0_25), (I p0_26), p0_27, p0_28] 17 (Array.toList (Value.cells x9_7))))) fun u_8 =>
 chk (List.length (Array.toList (Value.cells x9_7)) == 12) (chk (List.all (Array.toList (Value.cells x9_7)) one) (k_68 u_8)))
 ((jn (fun (y11_15 : Value) =>
 condW y11_15
 ((k_68 (.agg #[(I p0_0), (I p0_1), (I p0_2), (I p0_3), (I p0_4), (I p0_5), (I p0_6), (I p0_7), (I p0_8), (I p0_9), (B p0_10), (I 0), (.float .f64 p0_12), p0_13, p0_14, p0_15, p0_16, (I p0_17), (I p0_18), (.float .f64 p0_19), (.float .f64 p0_20), (I p0_21), (I p0_22), (I p0_23), (I p0_24), (I p0_25), (I p0_26), p0_27, p0_28])))
 (rdV Tryz.prog X0 w0 (binS .eql 3 (.tmp 5) (.const (I 3)) (I p0_0) (I 3)) fun x17_18 =>
 (condW x17_18
 (rdV Tryz.prog X0 w0 (bld 39 #[(I 0), (I 0), (I 0)] #[]) fun x18_19 =>
 rdV Tryz.prog X0 w0 (bld 34 #[(I 0), (I 0), (I 0)] #[]) fun x19_20 =>
 un (Value.agg (List.toArray (setL [(I p0_0), (I p0_1), (I p0_2), (I p0_3), (I p0_4), (I p0_5), (I p0_6), (I p0_7), (I p0_8), (I p0_9), (B p0_10), (I p0_11), (.float .f64 p0_12), p0_13, p0_14, p0_15, p0_16, (I p0_17), (I p0_18), (.float .f64 p0_19), (.float .f64 p0_20), (I p0_21), (I p0_22), (I p0_23), (I p0_24), (I p0_25), (I p0_26), p0_27, p0_28] 1 (Array.toList (Value.cells x18_19))))) fun u_21 =>
 chk (List.length (Array.toList (Value.cells x18_19)) == 3) (chk (List.all (Array.toList (Value.cells x18_19)) one) (un (Value.agg (List.toArray (setL (Array.toList (Value.cells u_21)) 4 (Array.toList (Value.cells x19_20))))) fun u_22 =>
 chk (List.length (Array.toList (Value.cells x19_20)) == 3) (chk (List.all (Array.toList (Value.cells x19_20)) one) (un (Value.agg (List.toArray (setL (Array.toList (Value.cells u_22)) 13 [(.slice none 0 0)]))) fun u_23 =>
 un (Value.agg (List.toArray (setL (Array.toList (Value.cells u_23)) 14 [(.slice none 0 0)]))) fun u_24 =>
 un (Value.agg (List.toArray (setL (Array.toList (Value.cells u_24)) 15 [(.slice none 0 0)]))) fun u_25 =>
 (k_68 u_25))))))
 (rdV Tryz.prog X0 w0 (binS .eql 3 (.tmp 5) (.const (I 4)) (I p0_0) (I 4)) fun x26_27 =>
 (condW x26_27
 (rdV Tryz.prog X0 w0 (bld 39 #[(I 0), (I 0), (I 0)] #[]) fun x27_28 =>
 rdV Tryz.prog X0 w0 (bld 34 #[(I 0), (I 0), (I 0)] #[]) fun x28_29 =>
 un (Value.agg (List.toArray (setL [(I p0_0), (I p0_1), (I p0_2), (I p0_3), (I p0_4), (I p0_5), (I p0_6), (I p0_7), (I p0_8), (I p0_9), (B p0_10), (I p0_11), (.float .f64 p0_12), p0_13, p0_14, p0_15, p0_16, (I p0_17), (I p0_18), (.float .f64 p0_19), (.float .f64 p0_20), (I p0_21), (I p0_22), (I p0_23), (I p0_24), (I p0_25), (I p0_26), p0_27, p0_28] 1 (Array.toList (Value.cells x27_28))))) fun u_30 =>
 chk (List.length (Array.toList (Value.cells x27_28)) == 3) (chk (List.all (Array.toList (Value.cells x27_28)) one) (un (Value.agg (List.toArray (setL (Array.toList (Value.cells u_30)) 10 [(B false)]))) fun u_31 =>
 un (Value.agg (List.toArray (setL (Array.toList (Value.cells u_31)) 4 (Array.toList (Value.cells x28_29))))) fun u_32 =>
 chk (List.length (Array.toList (Value.cells x28_29)) == 3) (chk (List.all (Array.toList (Value.cells x28_29)) one) (k_68 u_32)))))
 (rdV Tryz.prog X0 w0 (binS .eql 3 (.tmp 5) (.const (I 5)) (I p0_0) (I 5)) fun x33_34 =>
 (condW x33_34
 (rdV Tryz.prog X0 w0 (bld 34 #[(I 0), (I 0), (I 0)] #[]) fun x34_35 =>
 un (Value.agg (List.toArray (setL [(I p0_0), (I p0_1), (I p0_2), (I p0_3), (I p0_4), (I p0_5), (I p0_6), (I p0_7), (I p0_8), (I p0_9), (B p0_10), (I p0_11), (.float .f64 p0_12), p0_13, p0_14, p0_15, p0_16, (I p0_17), (I p0_18), (.float .f64 p0_19), (.float .f64 p0_20), (I p0_21), (I p0_22), (I p0_23), (I p0_24), (I p0_25), (I p0_26), p0_27, p0_28] 4 (Array.toList (Value.cells x34_35))))) fun u_36 =>
 chk (List.length (Array.toList (Value.cells x34_35)) == 3) (chk (List.all (Array.toList (Value.cells x34_35)) one) (k_68 u_36)))
 (rdV Tryz.prog X0 w0 (binS .eql 3 (.tmp 5) (.const (I 6)) (I p0_0) (I 6)) fun x37_38 =>
 (condW x37_38
 (rdV Tryz.prog X0 w0 (bld 34 #[(I 0), (I 0), (I 0)] #[]) fun x38_39 =>
 un (Value.agg (List.toArray (setL [(I p0_0), (I p0_1), (I p0_2), (I p0_3), (I p0_4), (I p0_5), (I p0_6), (I p0_7), (I p0_8), (I p0_9), (B p0_10), (I 0), (.float .f64 0), p0_13, p0_14, p0_15, p0_16, (I p0_17), (I p0_18), (.float .f64 p0_19), (.float .f64 p0_20), (I p0_21), (I p0_22), (I p0_23), (I p0_24), (I p0_25), (I p0_26), p0_27, p0_28] 4 (Array.toList (Value.cells x38_39))))) fun u_40 =>
 chk (List.length (Array.toList (Value.cells x38_39)) == 3) (chk (List.all (Array.toList (Value.cells x38_39)) one) (k_68 u_40)))
 (rdV Tryz.prog X0 w0 (binS .eql 3 (.tmp 5) (.const (I 9)) (I p0_0) (I 9)) fun x43_42 =>
 (condW x43_42
 (rdV Tryz.prog X0 w0 (bld 39 #[(I 0), (I 0), (I 0)] #[]) fun x44_43 =>
 rdV Tryz.prog X0 w0 (bld 34 #[(I 0), (I 0), (I 0)] #[]) fun x45_44 =>
 un (Value.agg (List.toArray (setL [(I p0_0), (I p0_1), (I p0_2), (I p0_3), (I p0_4), (I p0_5), (I p0_6), (I p0_7), (I p0_8), (I p0_9), (B p0_10), (I p0_11), (.float .f64 p0_12), p0_13, p0_14, p0_15, p0_16, (I p0_17), (I p0_18), (.float .f64 p0_19), (.float .f64 p0_20), (I p0_21), (I p0_22), (I p0_23), (I p0_24), (I p0_25), (I p0_26), p0_27, p0_28] 1 (Array.toList (Value.cells x44_43))))) fun u_45 =>
 chk (List.length (Array.toList (Value.cells x44_43)) == 3) (chk (List.all (Array.toList (Value.cells x44_43)) one) (un (Value.agg (List.toArray (setL (Array.toList (Value.cells u_45)) 4 (Array.toList (Value.cells x45_44))))) fun u_46 =>
 chk (List.length (Array.toList (Value.cells x45_44)) == 3) (chk (List.all (Array.toList (Value.cells x45_44)) one) (un (Value.agg (List.toArray (setL (Array.toList (Value.cells u_46)) 15 [(.slice none 0 0)]))) fun u_47 =>
 (k_68 u_47))))))
 (rdV Tryz.prog X0 w0 (binS .eql 3 (.tmp 5) (.const (I 10)) (I p0_0) (I 10)) fun x50_49 =>
 (condW x50_49
 (rdV Tryz.prog X0 w0 (bld 39 #[(I 0), (I 0), (I 0)] #[]) fun x51_50 =>
 un (Value.agg (List.toArray (setL [(I p0_0), (I p0_1), (I p0_2), (I p0_3), (I p0_4), (I p0_5), (I p0_6), (I p0_7), (I p0_8), (I p0_9), (B p0_10), (I p0_11), (.float .f64 p0_12), p0_13, p0_14, p0_15, p0_16, (I p0_17), (I p0_18), (.float .f64 p0_19), (.float .f64 p0_20), (I p0_21), (I p0_22), (I p0_23), (I p0_24), (I p0_25), (I p0_26), p0_27, p0_28] 1 (Array.toList (Value.cells x51_50))))) fun u_51 =>
 chk (List.length (Array.toList (Value.cells x51_50)) == 3) (chk (List.all (Array.toList (Value.cells x51_50)) one) (k_68 u_51)))
 (rdV Tryz.prog X0 w0 (binS .eql 3 (.tmp 5) (.const (I 11)) (I p0_0) (I 11)) fun x54_53 =>
 (condW x54_53
 (rdV Tryz.prog X0 w0 (bld 34 #[(I 0), (I 0), (I 0)] #[]) fun x55_54 =>
 rdV Tryz.prog X0 w0 (bld 34 #[(I 0), (I 0), (I 0)] #[]) fun x56_55 =>
 rdV Tryz.prog X0 w0 (bld 39 #[(I 0), (I 0), (I 0)] #[]) fun x57_56 =>
 un (Value.agg (List.toArray (setL [(I p0_0), (I p0_1), (I p0_2), (I p0_3), (I p0_4), (I p0_5), (I p0_6), (I p0_7), (I p0_8), (I p0_9), (B p0_10), (I p0_11), (.float .f64 p0_12), p0_13, p0_14, p0_15, p0_16, (I p0_17), (I p0_18), (.float .f64 p0_19), (.float .f64 p0_20), (I p0_21), (I p0_22), (I p0_23), (I p0_24), (I p0_25), (I p0_26), p0_27, p0_28] 7 (Array.toList (Value.cells x55_54))))) fun u_57 =>
 chk (List.length (Array.toList (Value.cells x55_54)) == 3) (chk (List.all (Array.toList (Value.cells x55_54)) one) (un (Value.agg (List.toArray (setL (Array.toList (Value.cells u_57)) 4 (Array.toList (Value.cells x56_55))))) fun u_58 =>
 chk (List.length (Array.toList (Value.cells x56_55)) == 3) (chk (List.all (Array.toList (Value.cells x56_55)) one) (un (Value.agg (List.toArray (setL (Array.toList (Value.cells u_58)) 1 (Array.toList (Value.cells x57_56))))) fun u_59 =>
 chk (List.length (Array.toList (Value.cells x57_56)) == 3) (chk (List.all (Array.toList (Value.cells x57_56)) one) (un (Value.agg (List.toArray (setL (Array.toList (Value.cells u_59)) 14 [(.slice none 0 0)]))) fun u_60 =>
 (k_68 u_60))))))))
 (rdV Tryz.prog X0 w0 (binS .eql 3 (.tmp 5) (.const (I 12)) (I p0_0) (I 12)) fun x63_62 =>
 (condW x63_62
 (rdV Tryz.prog X0 w0 (bld 34 #[(I 0), (I 0), (I 0)] #[]) fun x64_63 =>
 un (Value.agg (List.toArray (setL [(I p0_0), (I p0_1), (I p0_2), (I p0_3), (I p0_4), (I p0_5), (I p0_6), (I p0_7), (I p0_8), (I p0_9), (B p0_10), (I p0_11), (.float .f64 p0_12), p0_13, p0_14, p0_15, p0_16, (I p0_17), (I p0_18), (.float .f64 p0_19), (.float .f64 p0_20), (I p0_21), (I p0_22), (I p0_23), (I p0_24), (I p0_25), (I p0_26), p0_27, p0_28] 4 (Array.toList (Value.cells x64_63))))) fun u_64 =>
 chk (List.length (Array.toList (Value.cells x64_63)) == 3) (chk (List.all (Array.toList (Value.cells x64_63)) one) (un (Value.agg (List.toArray (setL (Array.toList (Value.cells u_64)) 16 [(.slice none 0 0)]))) fun u_65 =>
 (k_68 u_65))))
 (chk (List.all [(I p0_0), (I p0_1), (I p0_2), (I p0_3), (I p0_4), (I p0_5), (I p0_6), (I p0_7), (I p0_8), (I p0_9), (B p0_10), (I p0_11), (.float .f64 p0_12), p0_13, p0_14, p0_15, p0_16, (I p0_17), (I p0_18), (.float .f64 p0_19), (.float .f64 p0_20), (I p0_21), (I p0_22), (I p0_23), (I p0_24), (I p0_25), (I p0_26), p0_27, p0_28] one) ((fin R X0 w0 (Value.tuple #[(.agg #[(I p0_0), (I p0_1), (I p0_2), (I p0_3), (I p0_4), (I p0_5), (I p0_6), (I p0_7), (I p0_8), (I p0_9), (B p0_10), (I p0_11), (.float .f64 p0_12), p0_13, p0_14, p0_15, p0_16, (I p0_17), (I p0_18), (.float .f64 p0_19), (.float .f64 p0_20), (I p0_21), (I p0_22), (I p0_23), (I p0_24), (I p0_25), (I p0_26), p0_27, p0_28]), (B false)]))))))))))))))))))))) fun k_16 =>
 rdV Tryz.prog X0 w0 (binS .eql 3 (.tmp 5) (.const (I 2)) (I p0_0) (I 2)) fun x12_11 =>
 (condW x12_11
 (k_16 x12_11)
 (rdV Tryz.prog X0 w0 (binS .eql 3 (.tmp 5) (.const (I 7)) (I p0_0) (I 7)) fun x13_13 =>
 (condW x13_13
 (k_16 x13_13)
 (rdV Tryz.prog X0 w0 (binS .eql 3 (.tmp 5) (.const (I 8)) (I p0_0) (I 8)) fun x14_14 =>
 (k_16 x14_14)))))))))))
theorem ok_recs_without {R : Ending → World → Prop} {w0 : World} {p0_0 p0_1 p0_2 p0_3 p0_4 p0_5 p0_6 p0_7 p0_8 p0_9 : Int} {p0_10 : Bool} {p0_11 : Int} {p0_12 : Nat} {p0_13 p0_14 p0_15 p0_16 : Value} {p0_17 p0_18 : Int} {p0_19 p0_20 : Nat} {p0_21 p0_22 p0_23 p0_24 p0_25 p0_26 : Int} {p0_27 p0_28 : Value} (h : vc_recs_without R w0 (old w0) p0_0 p0_1 p0_2 p0_3 p0_4 p0_5 p0_6 p0_7 p0_8 p0_9 p0_10 p0_11 p0_12 p0_13 p0_14 p0_15 p0_16 p0_17 p0_18 p0_19 p0_20 p0_21 p0_22 p0_23 p0_24 p0_25 p0_26 p0_27 p0_28) : Calls Tryz.prog 81 #[(.agg #[(I p0_0), (I p0_1), (I p0_2), (I p0_3), (I p0_4), (I p0_5), (I p0_6), (I p0_7), (I p0_8), (I p0_9), (B p0_10), (I p0_11), (.float .f64 p0_12), p0_13, p0_14, p0_15, p0_16, (I p0_17), (I p0_18), (.float .f64 p0_19), (.float .f64 p0_20), (I p0_21), (I p0_22), (I p0_23), (I p0_24), (I p0_25), (I p0_26), p0_27, p0_28])] w0 R :=
  calls_of_vc (pl := pl_recs_without) Tryz.func81 (by kernel_rfl) (by kernel_rfl) h
noncomputable def pl_recs_zero : Plan := ⟨64, [(1, (Tryz.prog.cellsOf 51))], [3, 8, 14, 20, 25, 30, 36, 42, 48, 54, 60], [0, 2], [7, 9, 10, 11, 13, 15, 16, 17, 19, 21, 22, 24, 26, 27, 29, 31, 32, 33, 35, 37, 38, 39, 41, 43, 44, 45, 47, 49, 50, 51, 53, 55, 56, 57, 59, 61, 62], []⟩
def vc_recs_zero (R : Ending → World → Prop) (w0 : World) (X0 : XS) (_p0_0 p0_1 p0_2 p0_3 p0_4 p0_5 p0_6 p0_7 p0_8 p0_9 : Int) (p0_10 : Bool) (p0_11 : Int) (p0_12 : Nat) (p0_13 p0_14 p0_15 p0_16 : Value) (p0_17 p0_18 : Int) (p0_19 p0_20 : Nat) (p0_21 p0_22 p0_23 p0_24 p0_25 p0_26 : Int) (p0_27 p0_28 : Value) : Prop :=
 (rdV Tryz.prog X0 w0 (bld 39 #[(I 0), (I 0), (I 0)] #[]) fun x5_3 =>
 rdV Tryz.prog X0 w0 (binS .eql 39 (.tmp 4) (.tmp 5) (.agg #[(I p0_1), (I p0_2), (I p0_3)]) x5_3) fun x6_4 =>
 un (gSel x6_4 true (.agg #[(I p0_4), (I p0_5), (I p0_6)])) fun u_5 =>
 grdW Tryz.prog X0 w0 x6_4 true (vS (bld 34 #[(I 0), (I 0), (I 0)] #[])) fun x10_6 =>
 grdW Tryz.prog X0 w0 x6_4 true (vS (binS .eql 34 (.tmp 9) (.tmp 10) u_5 x10_6)) fun x11_7 =>
 rdW Tryz.prog X0 w0 (pickN x6_4 x11_7 (B false)) fun x12_8 =>
 un (gSel x12_8 true (.agg #[(I p0_7), (I p0_8), (I p0_9)])) fun u_9 =>
 grdW Tryz.prog X0 w0 x12_8 true (vS (bld 34 #[(I 0), (I 0), (I 0)] #[])) fun x16_10 =>
 grdW Tryz.prog X0 w0 x12_8 true (vS (binS .eql 34 (.tmp 15) (.tmp 16) u_9 x16_10)) fun x17_11 =>
 rdW Tryz.prog X0 w0 (pickN x12_8 x17_11 (B false)) fun x18_12 =>
 un (gSel x18_12 true (B p0_10)) fun u_13 =>
 grdW Tryz.prog X0 w0 x18_12 true (vS (Op.unary UnOp.not u_13)) fun x22_14 =>
 rdW Tryz.prog X0 w0 (pickN x18_12 x22_14 (B false)) fun x23_15 =>
 un (gSel x23_15 true (I p0_11)) fun u_16 =>
 grdW Tryz.prog X0 w0 x23_15 true (vS (binS .eql 3 (.tmp 26) (.const (I 0)) u_16 (I 0))) fun x27_17 =>
 rdW Tryz.prog X0 w0 (pickN x23_15 x27_17 (B false)) fun x28_18 =>
 un (gSel x28_18 true (.float .f64 p0_12)) fun u_19 =>
 jn (fun (x32_20 : Value) (w_21 : World) (X_22 : XS) =>
 grdW Tryz.prog X_22 w_21 x28_18 true (vS (binS .eql 129 (.tmp 32) (.const (Value.int IntKind.u64 0)) x32_20 (Value.int IntKind.u64 0))) fun x33_24 =>
 rdW Tryz.prog X_22 w_21 (pickN x28_18 x33_24 (B false)) fun x34_25 =>
 un (gSel x34_25 true p0_13) fun u_26 =>
 grdW Tryz.prog X_22 w_21 x34_25 true (vS (lnS 41 3 u_26)) fun x38_27 =>
 grdW Tryz.prog X_22 w_21 x34_25 true (vS (binS .eql 3 (.tmp 38) (.const (I 0)) x38_27 (I 0))) fun x39_28 =>
 rdW Tryz.prog X_22 w_21 (pickN x34_25 x39_28 (B false)) fun x40_29 =>
 un (gSel x40_29 true p0_14) fun u_30 =>
 grdW Tryz.prog X_22 w_21 x40_29 true (vS (lnS 42 3 u_30)) fun x44_31 =>
 grdW Tryz.prog X_22 w_21 x40_29 true (vS (binS .eql 3 (.tmp 44) (.const (I 0)) x44_31 (I 0))) fun x45_32 =>
 rdW Tryz.prog X_22 w_21 (pickN x40_29 x45_32 (B false)) fun x46_33 =>
 un (gSel x46_33 true p0_15) fun u_34 =>
 grdW Tryz.prog X_22 w_21 x46_33 true (vS (lnS 23 3 u_34)) fun x50_35 =>
 grdW Tryz.prog X_22 w_21 x46_33 true (vS (binS .eql 3 (.tmp 50) (.const (I 0)) x50_35 (I 0))) fun x51_36 =>
 rdW Tryz.prog X_22 w_21 (pickN x46_33 x51_36 (B false)) fun x52_37 =>
 un (gSel x52_37 true p0_16) fun u_38 =>
 grdW Tryz.prog X_22 w_21 x52_37 true (vS (lnS 43 3 u_38)) fun x56_39 =>
 grdW Tryz.prog X_22 w_21 x52_37 true (vS (binS .eql 3 (.tmp 56) (.const (I 0)) x56_39 (I 0))) fun x57_40 =>
 rdW Tryz.prog X_22 w_21 (pickN x52_37 x57_40 (B false)) fun x58_41 =>
 un (gSel x58_41 true (.agg #[(I p0_17), (I p0_18), (.float .f64 p0_19), (.float .f64 p0_20), (I p0_21), (I p0_22), (I p0_23), (I p0_24), (I p0_25), (I p0_26), p0_27, p0_28])) fun u_42 =>
 jn (fun (x62_43 : Value) (w_44 : World) (X_45 : XS) =>
 rdW Tryz.prog X_45 w_44 (pickN x58_41 x62_43 (B false)) fun x63_47 =>
 (fin R X_45 w_44 x63_47)) fun k_46 =>
 (gE x58_41 true (eC Tryz.prog R X_22 w_21 true 101 #[u_42] k_46) (k_46 undef w_21 X_22))) fun k_23 =>
 (gE x28_18 true (eC Tryz.prog R X0 w0 true 72 #[u_19] k_23) (k_23 undef w0 X0)))
theorem ok_recs_zero {R : Ending → World → Prop} {w0 : World} {p0_0 p0_1 p0_2 p0_3 p0_4 p0_5 p0_6 p0_7 p0_8 p0_9 : Int} {p0_10 : Bool} {p0_11 : Int} {p0_12 : Nat} {p0_13 p0_14 p0_15 p0_16 : Value} {p0_17 p0_18 : Int} {p0_19 p0_20 : Nat} {p0_21 p0_22 p0_23 p0_24 p0_25 p0_26 : Int} {p0_27 p0_28 : Value} (h : vc_recs_zero R w0 (old w0) p0_0 p0_1 p0_2 p0_3 p0_4 p0_5 p0_6 p0_7 p0_8 p0_9 p0_10 p0_11 p0_12 p0_13 p0_14 p0_15 p0_16 p0_17 p0_18 p0_19 p0_20 p0_21 p0_22 p0_23 p0_24 p0_25 p0_26 p0_27 p0_28) : Calls Tryz.prog 82 #[(.agg #[(I p0_0), (I p0_1), (I p0_2), (I p0_3), (I p0_4), (I p0_5), (I p0_6), (I p0_7), (I p0_8), (I p0_9), (B p0_10), (I p0_11), (.float .f64 p0_12), p0_13, p0_14, p0_15, p0_16, (I p0_17), (I p0_18), (.float .f64 p0_19), (.float .f64 p0_20), (I p0_21), (I p0_22), (I p0_23), (I p0_24), (I p0_25), (I p0_26), p0_27, p0_28])] w0 R :=
  calls_of_vc (pl := pl_recs_zero) Tryz.func82 (by kernel_rfl) (by kernel_rfl) h
noncomputable def pl_recs_fields : Plan := ⟨134, [(1, (Tryz.prog.cellsOf 51))], [5, 9, 14, 18, 24, 26, 28, 30, 36, 42, 46, 48, 54, 60, 76, 81, 87, 92, 97, 101, 106, 112, 117, 119, 121, 123, 126, 130], [0, 2, 3, 4, 6, 7, 12, 22, 40, 52, 57, 85, 90, 95, 110, 115], [17, 19, 20, 35, 37, 38, 45, 47, 49, 50, 67, 68, 69, 71, 72, 73, 75, 77, 78, 80, 82, 83, 100, 102, 103, 105, 107, 108, 129, 131, 132], []⟩
def vc_recs_fields (R : Ending → World → Prop) (w0 : World) (X0 : XS) (p0_0 p0_1 p0_2 p0_3 p0_4 p0_5 p0_6 p0_7 p0_8 p0_9 : Int) (p0_10 : Bool) (p0_11 : Int) (p0_12 : Nat) (p0_13 p0_14 p0_15 p0_16 : Value) (p0_17 p0_18 : Int) (p0_19 p0_20 : Nat) (p0_21 p0_22 p0_23 p0_24 p0_25 p0_26 : Int) (p0_27 p0_28 : Value) : Prop :=
 ((rdV Tryz.prog X0 w0 (binS .eql 3 (.tmp 6) (.const (I 1)) (I p0_0) (I 1)) fun x8_6 =>
 (condW x8_6
 (eC Tryz.prog R X0 w0 true 102 #[(.agg #[(I p0_17), (I p0_18), (.float .f64 p0_19), (.float .f64 p0_20), (I p0_21), (I p0_22), (I p0_23), (I p0_24), (I p0_25), (I p0_26), p0_27, p0_28])] fun x11_8 w_9 X_10 =>
 (fin R X_10 w_9 x11_8))
 (rdV Tryz.prog X0 w0 (binS .eql 3 (.tmp 6) (.const (I 2)) (I p0_0) (I 2)) fun x13_12 =>
 (condW x13_12
 (rdV Tryz.prog X0 w0 (binOp .geq 3 (I p0_11) (I 0)) fun x16_14 =>
 un (gSel x16_14 true (I p0_11)) fun u_15 =>
 grdW Tryz.prog X0 w0 x16_14 true (vS (binOp .leq 3 u_15 (I 281474976710656))) fun x20_16 =>
 rdW Tryz.prog X0 w0 (pickN x16_14 x20_16 (B false)) fun x21_17 =>
 (fin R X0 w0 x21_17))
 (rdV Tryz.prog X0 w0 (binS .eql 3 (.tmp 6) (.const (I 3)) (I p0_0) (I 3)) fun x23_19 =>
 (condW x23_19
 (rdV Tryz.prog X0 w0 (bld 87 #[(I p0_1), (I p0_2), (I p0_3), (I p0_4), (I p0_5), (I p0_6), p0_13, p0_14] #[(0, (.agg #[(I p0_1), (I p0_2), (I p0_3)])), (1, (.agg #[(I p0_4), (I p0_5), (I p0_6)])), (2, p0_13), (3, p0_14)]) fun x32_21 =>
 eC Tryz.prog R X0 w0 true 103 #[x32_21] fun x33_22 w_23 X_24 =>
 rdV Tryz.prog X_24 w_23 (binS .eql 27 (.tmp 33) (.const (I 0)) x33_22 (I 0)) fun x34_25 =>
 un (gSel x34_25 true p0_15) fun u_26 =>
 jn (fun (x38_27 : Value) (w_28 : World) (X_29 : XS) =>
 rdW Tryz.prog X_29 w_28 (pickN x34_25 x38_27 (B false)) fun x39_31 =>
 (fin R X_29 w_28 x39_31)) fun k_30 =>
 (gE x34_25 true (eC Tryz.prog R X_24 w_23 true 104 #[u_26] k_30) (k_30 undef w_23 X_24)))
 (rdV Tryz.prog X0 w0 (binS .eql 3 (.tmp 6) (.const (I 4)) (I p0_0) (I 4)) fun x41_33 =>
 (condW x41_33
 (eC Tryz.prog R X0 w0 true 105 #[(.agg #[(I p0_1), (I p0_2), (I p0_3)])] fun x44_35 w_36 X_37 =>
 un (gSel x44_35 true (B p0_10)) fun u_38 =>
 un (gSel x44_35 true (.agg #[(I p0_4), (I p0_5), (I p0_6)])) fun u_39 =>
 jn (fun (x50_40 : Value) (w_41 : World) (X_42 : XS) =>
 rdW Tryz.prog X_42 w_41 (pickN x44_35 x50_40 (B false)) fun x51_44 =>
 (fin R X_42 w_41 x51_44)) fun k_43 =>
 (gE x44_35 true (eC Tryz.prog R X_37 w_36 true 106 #[u_38, u_39] k_43) (k_43 undef w_36 X_37)))
 (rdV Tryz.prog X0 w0 (binS .eql 3 (.tmp 6) (.const (I 5)) (I p0_0) (I 5)) fun x53_46 =>
 (condW x53_46
 (eC Tryz.prog R X0 w0 true 78 #[(.agg #[(I p0_4), (I p0_5), (I p0_6)])] fun x56_48 w_49 X_50 =>
 (fin R X_50 w_49 x56_48))
 (rdV Tryz.prog X0 w0 (binS .eql 3 (.tmp 6) (.const (I 6)) (I p0_0) (I 6)) fun x58_52 =>
 (condW x58_52
 (eC Tryz.prog R X0 w0 true 107 #[(.float .f64 p0_12)] fun x62_54 w_55 X_56 =>
 rdV Tryz.prog X_56 w_55 (Instr.extract x62_54 0) fun x63_57 =>
 rdV Tryz.prog X_56 w_55 (Instr.extract x62_54 1) fun x64_58 =>
 (rdV Tryz.prog X_56 w_55 (binS .eql 27 (.tmp 65) (.const (I 0)) x64_58 (I 0)) fun x66_60 =>
 un (gSel x66_60 true x63_57) fun u_61 =>
 grdW Tryz.prog X_56 w_55 x66_60 true (vS (binOp .gtr 40 u_61 (.float .f64 0))) fun x69_62 =>
 rdW Tryz.prog X_56 w_55 (pickN x66_60 x69_62 (B false)) fun x70_63 =>
 un (gSel x70_63 true x63_57) fun u_64 =>
 grdW Tryz.prog X_56 w_55 x70_63 true (vS (binOp .lss 40 u_64 (.float .f64 4607182418800017408))) fun x73_65 =>
 rdW Tryz.prog X_56 w_55 (pickN x70_63 x73_65 (B false)) fun x74_66 =>
 un (gSel x74_66 true (I p0_11)) fun u_67 =>
 jn (fun (x78_68 : Value) (w_69 : World) (X_70 : XS) =>
 rdW Tryz.prog X_70 w_69 (pickN x74_66 x78_68 (B false)) fun x79_72 =>
 un (gSel x79_72 true (.agg #[(I p0_4), (I p0_5), (I p0_6)])) fun u_73 =>
 jn (fun (x83_74 : Value) (w_75 : World) (X_76 : XS) =>
 rdW Tryz.prog X_76 w_75 (pickN x79_72 x83_74 (B false)) fun x84_78 =>
 (fin R X_76 w_75 x84_78)) fun k_77 =>
 (gE x79_72 true (eC Tryz.prog R X_70 w_69 true 78 #[u_73] k_77) (k_77 undef w_69 X_70))) fun k_71 =>
 (gE x74_66 true (eC Tryz.prog R X_56 w_55 true 108 #[u_67] k_71) (k_71 undef w_55 X_56))))
 (rdV Tryz.prog X0 w0 (binS .eql 3 (.tmp 6) (.const (I 7)) (I p0_0) (I 7)) fun x86_80 =>
 (condW x86_80
 (eC Tryz.prog R X0 w0 true 108 #[(I p0_11)] fun x89_82 w_83 X_84 =>
 (fin R X_84 w_83 x89_82))
 (rdV Tryz.prog X0 w0 (binS .eql 3 (.tmp 6) (.const (I 8)) (I p0_0) (I 8)) fun x91_86 =>
 (condW x91_86
 (rdV Tryz.prog X0 w0 (binOp .geq 3 (I p0_11) (I 1)) fun x94_88 =>
 (fin R X0 w0 x94_88))
 (rdV Tryz.prog X0 w0 (binS .eql 3 (.tmp 6) (.const (I 9)) (I p0_0) (I 9)) fun x96_90 =>
 (condW x96_90
 (eC Tryz.prog R X0 w0 true 105 #[(.agg #[(I p0_1), (I p0_2), (I p0_3)])] fun x99_92 w_93 X_94 =>
 un (gSel x99_92 true (.agg #[(I p0_4), (I p0_5), (I p0_6)])) fun u_95 =>
 jn (fun (x103_96 : Value) (w_97 : World) (X_98 : XS) =>
 rdW Tryz.prog X_98 w_97 (pickN x99_92 x103_96 (B false)) fun x104_100 =>
 un (gSel x104_100 true p0_15) fun u_101 =>
 jn (fun (x108_102 : Value) (w_103 : World) (X_104 : XS) =>
 rdW Tryz.prog X_104 w_103 (pickN x104_100 x108_102 (B false)) fun x109_106 =>
 (fin R X_104 w_103 x109_106)) fun k_105 =>
 (gE x104_100 true (eC Tryz.prog R X_98 w_97 true 104 #[u_101] k_105) (k_105 undef w_97 X_98))) fun k_99 =>
 (gE x99_92 true (eC Tryz.prog R X_94 w_93 true 109 #[u_95] k_99) (k_99 undef w_93 X_94)))
 (rdV Tryz.prog X0 w0 (binS .eql 3 (.tmp 6) (.const (I 10)) (I p0_0) (I 10)) fun x111_108 =>
 (condW x111_108
 (eC Tryz.prog R X0 w0 true 105 #[(.agg #[(I p0_1), (I p0_2), (I p0_3)])] fun x114_110 w_111 X_112 =>
 (fin R X_112 w_111 x114_110))
 (rdV Tryz.prog X0 w0 (binS .eql 3 (.tmp 6) (.const (I 11)) (I p0_0) (I 11)) fun x116_114 =>
 (condW x116_114
 (eC Tryz.prog R X0 w0 true 110 #[(.agg #[(I p0_7), (I p0_8), (I p0_9)]), (.agg #[(I p0_4), (I p0_5), (I p0_6)]), (.agg #[(I p0_1), (I p0_2), (I p0_3)]), p0_14] fun x125_116 w_117 X_118 =>
 (fin R X_118 w_117 x125_116))
 (((eC Tryz.prog R X0 w0 true 78 #[(.agg #[(I p0_4), (I p0_5), (I p0_6)])] fun x128_120 w_121 X_122 =>
 un (gSel x128_120 true p0_16) fun u_123 =>
 jn (fun (x132_124 : Value) (w_125 : World) (X_126 : XS) =>
 rdW Tryz.prog X_126 w_125 (pickN x128_120 x132_124 (B false)) fun x133_128 =>
 (fin R X_126 w_125 x133_128)) fun k_127 =>
 (gE x128_120 true (eC Tryz.prog R X_122 w_121 true 111 #[u_123] k_127) (k_127 undef w_121 X_122))))))))))))))))))))))))))))
theorem ok_recs_fields {R : Ending → World → Prop} {w0 : World} {p0_0 p0_1 p0_2 p0_3 p0_4 p0_5 p0_6 p0_7 p0_8 p0_9 : Int} {p0_10 : Bool} {p0_11 : Int} {p0_12 : Nat} {p0_13 p0_14 p0_15 p0_16 : Value} {p0_17 p0_18 : Int} {p0_19 p0_20 : Nat} {p0_21 p0_22 p0_23 p0_24 p0_25 p0_26 : Int} {p0_27 p0_28 : Value} (h : vc_recs_fields R w0 (old w0) p0_0 p0_1 p0_2 p0_3 p0_4 p0_5 p0_6 p0_7 p0_8 p0_9 p0_10 p0_11 p0_12 p0_13 p0_14 p0_15 p0_16 p0_17 p0_18 p0_19 p0_20 p0_21 p0_22 p0_23 p0_24 p0_25 p0_26 p0_27 p0_28) : Calls Tryz.prog 83 #[(.agg #[(I p0_0), (I p0_1), (I p0_2), (I p0_3), (I p0_4), (I p0_5), (I p0_6), (I p0_7), (I p0_8), (I p0_9), (B p0_10), (I p0_11), (.float .f64 p0_12), p0_13, p0_14, p0_15, p0_16, (I p0_17), (I p0_18), (.float .f64 p0_19), (.float .f64 p0_20), (I p0_21), (I p0_22), (I p0_23), (I p0_24), (I p0_25), (I p0_26), p0_27, p0_28])] w0 R :=
  calls_of_vc (pl := pl_recs_fields) Tryz.func83 (by kernel_rfl) (by kernel_rfl) h
noncomputable def pl_slices_IndexFunc_sl_string_string : Plan := ⟨19, [], [], [0, 1, 4, 5, 7, 8, 9, 16], [], [8]⟩
def vc_slices_IndexFunc_sl_string_string (R : Ending → World → Prop) (w0 : World) (X0 : XS) (p0 p1 : Value) : Prop :=
 (rdV Tryz.prog X0 w0 (lnS 41 3 p0) fun x7_4 =>
 (lp1 X0 w0 (I 0) 8 fun J_6 n_7 v_11 w_9 X_10 =>
 rdV Tryz.prog X_10 w_9 (binOp .lss 3 v_11 x7_4) fun x9_13 =>
 (condW x9_13
 (((rdV Tryz.prog X_10 w_9 (ixS 41 1 p0 v_11) fun x14_19 =>
 rdV Tryz.prog X_10 w_9 (ld1 9 x14_19) fun x15_20 =>
 eF Tryz.prog R X_10 w_9 true p1 #[x15_20] fun x16_21 w_22 X_23 =>
 (condW x16_21
 (fin R X_23 w_22 v_11)
 (((rdV Tryz.prog X_23 w_22 (binOp .add 3 v_11 (I 1)) fun x18_25 =>
 nx1 J_6 n_7 x18_25 w_22 X_23)))))))
 ((((fin R X_10 w_9 (I (-1)))))))))
theorem ok_slices_IndexFunc_sl_string_string {R : Ending → World → Prop} {w0 : World} {p0 p1 : Value} (h : vc_slices_IndexFunc_sl_string_string R w0 (old w0) p0 p1) : Calls Tryz.prog 84 #[p0, p1] w0 R :=
  calls_of_vc (pl := pl_slices_IndexFunc_sl_string_string) Tryz.func84 (by kernel_rfl) (by kernel_rfl) h
noncomputable def pl_place_Hash : Plan := ⟨37, [], [], [0, 2, 3, 4, 6, 8, 9, 10, 21, 22, 23], [], [3, 9, 22]⟩
def vc_place_Hash (R : Ending → World → Prop) (w0 : World) (X0 : XS) (p0 : ByteArray) : Prop :=
 ((rdV Tryz.prog X0 w0 (lnT 9 3 (.string p0)) fun x8_5 =>
 (lp2 X0 w0 (I 0) (Value.int IntKind.u64 14695981039346656037) 9 3 fun J_7 n_8 v_12 v_13 w_10 X_11 =>
 rdV Tryz.prog X_11 w_10 (binOp .lss 3 v_12 x8_5) fun x10_15 =>
 (condW x10_15
 (((rdV Tryz.prog X_11 w_10 (Instr.index 9 (.string p0) v_12) fun x15_21 =>
 rdV Tryz.prog X_11 w_10 (cvI IntKind.u64 5 129 x15_21) fun x16_22 =>
 rdV Tryz.prog X_11 w_10 (binOp .xor 129 v_13 x16_22) fun x17_23 =>
 (rdV Tryz.prog X_11 w_10 (binOp .mul 129 x17_23 (Value.int IntKind.u64 1099511628211)) fun x19_24 =>
 ((rdV Tryz.prog X_11 w_10 (binOp .add 3 v_12 (I 1)) fun x20_25 =>
 nx2 J_7 n_8 x20_25 x19_24 w_10 X_11))))))
 (((rdV Tryz.prog X_11 w_10 (bld 171 #[(Value.int IntKind.u64 18397679294719823053), (Value.int IntKind.u64 14181476777654086739)] #[(0, (Value.int IntKind.u64 18397679294719823053)), (1, (Value.int IntKind.u64 14181476777654086739))]) fun x21_28 =>
 (lp2 X_11 w_10 (I 0) v_13 22 3 fun J_30 n_31 v_35 v_36 w_33 X_34 =>
 rdV Tryz.prog X_34 w_33 (binOp .lss 3 v_35 (I 2)) fun x23_38 =>
 (condW x23_38
 ((rdV Tryz.prog X_34 w_33 (ixA 171 2 129 x21_28 v_35) fun x24_43 =>
 (rdV Tryz.prog X_34 w_33 (binOp .shr 129 v_36 (Value.int IntKind.u64 33)) fun x27_45 =>
 rdV Tryz.prog X_34 w_33 (binOp .xor 129 v_36 x27_45) fun x28_46 =>
 (rdV Tryz.prog X_34 w_33 (binOp .mul 129 x28_46 x24_43) fun x31_47 =>
 ((rdV Tryz.prog X_34 w_33 (binOp .add 3 v_35 (I 1)) fun x32_48 =>
 nx2 J_30 n_31 x32_48 x31_47 w_33 X_34))))))
 (((rdV Tryz.prog X_34 w_33 (binOp .shr 129 v_36 (Value.int IntKind.u64 33)) fun x35_50 =>
 rdV Tryz.prog X_34 w_33 (binOp .xor 129 v_36 x35_50) fun x36_51 =>
 (fin R X_34 w_33 x36_51)))))))))))))
theorem ok_place_Hash {R : Ending → World → Prop} {w0 : World} {p0 : ByteArray} (h : vc_place_Hash R w0 (old w0) p0) : Calls Tryz.prog 85 #[(.string p0)] w0 R :=
  calls_of_vc (pl := pl_place_Hash) Tryz.func85 (by kernel_rfl) (by kernel_rfl) h
noncomputable def pl_raceref11_own : Plan := ⟨104, [(1, (Tryz.prog.cellsOf 51)), (2, (Tryz.prog.cellsOf 51)), (3, (Tryz.prog.cellsOf 51))], [4, 7, 11, 13, 18, 20, 23, 25, 27, 29, 31, 33, 34, 35, 36, 37, 40, 42, 44, 46, 47, 48, 51, 53, 56, 58, 60, 62, 63, 64, 67, 69, 71, 73, 74, 75, 78, 80, 83, 85, 87, 89, 91, 92, 93, 94, 97, 99, 101, 102], [0, 8, 9, 14, 21, 38, 49, 54, 65, 76, 81, 95], [], []⟩
def vc_raceref11_own (R : Ending → World → Prop) (w0 : World) (X0 : XS) (p0_0 p0_1 p0_2 p0_3 p0_4 p0_5 p0_6 p0_7 p0_8 p0_9 : Int) (p0_10 : Bool) (p0_11 : Int) (p0_12 : Nat) (p0_13 p0_14 p0_15 p0_16 : Value) (p0_17 p0_18 : Int) (p0_19 p0_20 : Nat) (p0_21 p0_22 p0_23 p0_24 p0_25 p0_26 : Int) (p0_27 p0_28 : Value) : Prop :=
 (rdV Tryz.prog X0 w0 (bld 51 #[(I p0_0), (I 0), (I 0), (I 0), (I 0), (I 0), (I 0), (I 0), (I 0), (I 0), (B false), (I 0), (.float .f64 0), (.slice none 0 0), (.slice none 0 0), (.slice none 0 0), (.slice none 0 0), (I 0), (I 0), (.float .f64 0), (.float .f64 0), (I 0), (I 0), (I 0), (I 0), (I 0), (I 0), (.slice none 0 0), (.slice none 0 0)] #[(0, (I p0_0))]) fun x6_3 =>
 un (Value.agg (Value.cells x6_3)) fun u_4 =>
 chk (List.length (Array.toList (Value.cells x6_3)) == 29) (chk (List.all (Array.toList (Value.cells x6_3)) one) ((((jn (fun (y3_58 : Value) =>
 (chk (isA y3_58) (un (subOf y3_58 0 29) fun u_61 =>
 un (Value.agg (Value.cells u_61)) fun u_62 =>
 chk (List.length (Array.toList (Value.cells u_61)) == 29) (chk (List.all (Array.toList (Value.cells u_61)) one) (un (subOf u_62 0 29) fun u_63 =>
 chk (List.all [u_62] isA) (fin R X0 w0 u_63)))))) fun k_59 =>
 rdV Tryz.prog X0 w0 (binS .eql 3 (.tmp 8) (.const (I 1)) (I p0_0) (I 1)) fun x10_9 =>
 (condW x10_9
 (chk (isA u_4) (un (Value.agg (List.toArray (setL (Array.toList (Value.cells u_4)) 17 [(I p0_17), (I p0_18), (.float .f64 p0_19), (.float .f64 p0_20), (I p0_21), (I p0_22), (I p0_23), (I p0_24), (I p0_25), (I p0_26), p0_27, p0_28]))) fun u_10 =>
 chk (List.all [(I p0_17), (I p0_18), (.float .f64 p0_19), (.float .f64 p0_20), (I p0_21), (I p0_22), (I p0_23), (I p0_24), (I p0_25), (I p0_26), p0_27, p0_28] one) (k_59 u_10)))
 ((jn (fun (y14_17 : Value) =>
 condW y14_17
 (chk (isA u_4) (un (Value.agg (List.toArray (setL (Array.toList (Value.cells u_4)) 11 [(I p0_11)]))) fun u_19 =>
 (k_59 u_19)))
 (rdV Tryz.prog X0 w0 (binS .eql 3 (.tmp 8) (.const (I 3)) (I p0_0) (I 3)) fun x22_21 =>
 (condW x22_21
 (chk (isA u_4) (un (Value.agg (List.toArray (setL (Array.toList (Value.cells u_4)) 1 [(I p0_1), (I p0_2), (I p0_3)]))) fun u_22 =>
 un (Value.agg (List.toArray (setL (Array.toList (Value.cells u_22)) 4 [(I p0_4), (I p0_5), (I p0_6)]))) fun u_23 =>
 un (Value.agg (List.toArray (setL (Array.toList (Value.cells u_23)) 13 [p0_13]))) fun u_24 =>
 chk (one p0_13) (un (Value.agg (List.toArray (setL (Array.toList (Value.cells u_24)) 14 [p0_14]))) fun u_25 =>
 chk (one p0_14) (un (Value.agg (List.toArray (setL (Array.toList (Value.cells u_25)) 15 [p0_15]))) fun u_26 =>
 chk (one p0_15) (k_59 u_26)))))
 (rdV Tryz.prog X0 w0 (binS .eql 3 (.tmp 8) (.const (I 4)) (I p0_0) (I 4)) fun x39_28 =>
 (condW x39_28
 (chk (isA u_4) (un (Value.agg (List.toArray (setL (Array.toList (Value.cells u_4)) 1 [(I p0_1), (I p0_2), (I p0_3)]))) fun u_29 =>
 un (Value.agg (List.toArray (setL (Array.toList (Value.cells u_29)) 10 [(B p0_10)]))) fun u_30 =>
 un (Value.agg (List.toArray (setL (Array.toList (Value.cells u_30)) 4 [(I p0_4), (I p0_5), (I p0_6)]))) fun u_31 =>
 (k_59 u_31)))
 (rdV Tryz.prog X0 w0 (binS .eql 3 (.tmp 8) (.const (I 5)) (I p0_0) (I 5)) fun x50_33 =>
 (condW x50_33
 (chk (isA u_4) (un (Value.agg (List.toArray (setL (Array.toList (Value.cells u_4)) 4 [(I p0_4), (I p0_5), (I p0_6)]))) fun u_34 =>
 (k_59 u_34)))
 (rdV Tryz.prog X0 w0 (binS .eql 3 (.tmp 8) (.const (I 6)) (I p0_0) (I 6)) fun x55_36 =>
 (condW x55_36
 (chk (isA u_4) (un (Value.agg (List.toArray (setL (Array.toList (Value.cells u_4)) 12 [(.float .f64 p0_12)]))) fun u_37 =>
 un (Value.agg (List.toArray (setL (Array.toList (Value.cells u_37)) 11 [(I p0_11)]))) fun u_38 =>
 un (Value.agg (List.toArray (setL (Array.toList (Value.cells u_38)) 4 [(I p0_4), (I p0_5), (I p0_6)]))) fun u_39 =>
 (k_59 u_39)))
 (rdV Tryz.prog X0 w0 (binS .eql 3 (.tmp 8) (.const (I 9)) (I p0_0) (I 9)) fun x66_41 =>
 (condW x66_41
 (chk (isA u_4) (un (Value.agg (List.toArray (setL (Array.toList (Value.cells u_4)) 1 [(I p0_1), (I p0_2), (I p0_3)]))) fun u_42 =>
 un (Value.agg (List.toArray (setL (Array.toList (Value.cells u_42)) 4 [(I p0_4), (I p0_5), (I p0_6)]))) fun u_43 =>
 un (Value.agg (List.toArray (setL (Array.toList (Value.cells u_43)) 15 [p0_15]))) fun u_44 =>
 chk (one p0_15) (k_59 u_44)))
 (rdV Tryz.prog X0 w0 (binS .eql 3 (.tmp 8) (.const (I 10)) (I p0_0) (I 10)) fun x77_46 =>
 (condW x77_46
 (chk (isA u_4) (un (Value.agg (List.toArray (setL (Array.toList (Value.cells u_4)) 1 [(I p0_1), (I p0_2), (I p0_3)]))) fun u_47 =>
 (k_59 u_47)))
 (rdV Tryz.prog X0 w0 (binS .eql 3 (.tmp 8) (.const (I 11)) (I p0_0) (I 11)) fun x82_49 =>
 (condW x82_49
 (chk (isA u_4) (un (Value.agg (List.toArray (setL (Array.toList (Value.cells u_4)) 7 [(I p0_7), (I p0_8), (I p0_9)]))) fun u_50 =>
 un (Value.agg (List.toArray (setL (Array.toList (Value.cells u_50)) 4 [(I p0_4), (I p0_5), (I p0_6)]))) fun u_51 =>
 un (Value.agg (List.toArray (setL (Array.toList (Value.cells u_51)) 1 [(I p0_1), (I p0_2), (I p0_3)]))) fun u_52 =>
 un (Value.agg (List.toArray (setL (Array.toList (Value.cells u_52)) 14 [p0_14]))) fun u_53 =>
 chk (one p0_14) (k_59 u_53)))
 (rdV Tryz.prog X0 w0 (binS .eql 3 (.tmp 8) (.const (I 12)) (I p0_0) (I 12)) fun x96_55 =>
 (condW x96_55
 (chk (isA u_4) (un (Value.agg (List.toArray (setL (Array.toList (Value.cells u_4)) 4 [(I p0_4), (I p0_5), (I p0_6)]))) fun u_56 =>
 un (Value.agg (List.toArray (setL (Array.toList (Value.cells u_56)) 16 [p0_16]))) fun u_57 =>
 chk (one p0_16) (k_59 u_57)))
 (k_59 u_4)))))))))))))))))) fun k_18 =>
 rdV Tryz.prog X0 w0 (binS .eql 3 (.tmp 8) (.const (I 2)) (I p0_0) (I 2)) fun x15_13 =>
 (condW x15_13
 (k_18 x15_13)
 (rdV Tryz.prog X0 w0 (binS .eql 3 (.tmp 8) (.const (I 7)) (I p0_0) (I 7)) fun x16_15 =>
 (condW x16_15
 (k_18 x16_15)
 (rdV Tryz.prog X0 w0 (binS .eql 3 (.tmp 8) (.const (I 8)) (I p0_0) (I 8)) fun x17_16 =>
 (k_18 x17_16))))))))))))))
theorem ok_raceref11_own {R : Ending → World → Prop} {w0 : World} {p0_0 p0_1 p0_2 p0_3 p0_4 p0_5 p0_6 p0_7 p0_8 p0_9 : Int} {p0_10 : Bool} {p0_11 : Int} {p0_12 : Nat} {p0_13 p0_14 p0_15 p0_16 : Value} {p0_17 p0_18 : Int} {p0_19 p0_20 : Nat} {p0_21 p0_22 p0_23 p0_24 p0_25 p0_26 : Int} {p0_27 p0_28 : Value} (h : vc_raceref11_own R w0 (old w0) p0_0 p0_1 p0_2 p0_3 p0_4 p0_5 p0_6 p0_7 p0_8 p0_9 p0_10 p0_11 p0_12 p0_13 p0_14 p0_15 p0_16 p0_17 p0_18 p0_19 p0_20 p0_21 p0_22 p0_23 p0_24 p0_25 p0_26 p0_27 p0_28) : Calls Tryz.prog 86 #[(.agg #[(I p0_0), (I p0_1), (I p0_2), (I p0_3), (I p0_4), (I p0_5), (I p0_6), (I p0_7), (I p0_8), (I p0_9), (B p0_10), (I p0_11), (.float .f64 p0_12), p0_13, p0_14, p0_15, p0_16, (I p0_17), (I p0_18), (.float .f64 p0_19), (.float .f64 p0_20), (I p0_21), (I p0_22), (I p0_23), (I p0_24), (I p0_25), (I p0_26), p0_27, p0_28])] w0 R :=
  calls_of_vc (pl := pl_raceref11_own) Tryz.func86 (by kernel_rfl) (by kernel_rfl) h
noncomputable def pl_raceref11_good : Plan := ⟨140, [(1, (Tryz.prog.cellsOf 51))], [6, 10, 13, 16, 20, 25, 29, 35, 37, 39, 41, 47, 59, 69, 73, 78, 83, 92, 96, 102, 116, 125, 127, 129, 131, 136], [0, 2, 3, 4, 5, 17, 18, 23, 33, 51, 64, 67, 90, 100, 105, 120, 123], [28, 30, 31, 46, 48, 49, 54, 55, 57, 58, 60, 61, 62, 72, 74, 75, 77, 79, 80, 82, 84, 85, 87, 88, 95, 97, 98, 108, 109, 111, 112, 113, 115, 117, 118, 135, 137, 138], []⟩
def vc_raceref11_good (R : Ending → World → Prop) (w0 : World) (X0 : XS) (p0_0 p0_1 p0_2 p0_3 p0_4 p0_5 p0_6 p0_7 p0_8 p0_9 : Int) (p0_10 : Bool) (p0_11 : Int) (p0_12 : Nat) (p0_13 p0_14 p0_15 p0_16 : Value) (p0_17 p0_18 : Int) (p0_19 p0_20 : Nat) (p0_21 p0_22 p0_23 p0_24 p0_25 p0_26 : Int) (p0_27 p0_28 : Value) : Prop :=
 (rdV Tryz.prog X0 w0 (bld 34 #[(I 0), (I 0), (I 0)] #[]) fun x8_3 =>
 rdV Tryz.prog X0 w0 (binS .eql 34 (.tmp 7) (.tmp 8) (.agg #[(I p0_4), (I p0_5), (I p0_6)]) x8_3) fun x9_4 =>
 (eC Tryz.prog R X0 w0 true 90 #[(.agg #[(I p0_4), (I p0_5), (I p0_6)])] fun x12_6 w_7 X_8 =>
 (eC Tryz.prog R X_8 w_7 true 112 #[(.agg #[(I p0_1), (I p0_2), (I p0_3)])] fun x15_10 w_11 X_12 =>
 ((rdV Tryz.prog X_12 w_11 (binS .eql 3 (.tmp 17) (.const (I 1)) (I p0_0) (I 1)) fun x19_17 =>
 (condW x19_17
 (eC Tryz.prog R X_12 w_11 true 113 #[(.agg #[(I p0_17), (I p0_18), (.float .f64 p0_19), (.float .f64 p0_20), (I p0_21), (I p0_22), (I p0_23), (I p0_24), (I p0_25), (I p0_26), p0_27, p0_28])] fun x22_19 w_20 X_21 =>
 (fin R X_21 w_20 x22_19))
 (rdV Tryz.prog X_12 w_11 (binS .eql 3 (.tmp 17) (.const (I 2)) (I p0_0) (I 2)) fun x24_23 =>
 (condW x24_23
 (rdV Tryz.prog X_12 w_11 (binOp .geq 3 (I p0_11) (I 0)) fun x27_25 =>
 un (gSel x27_25 true (I p0_11)) fun u_26 =>
 grdW Tryz.prog X_12 w_11 x27_25 true (vS (binOp .leq 3 u_26 (I 281474976710656))) fun x31_27 =>
 rdW Tryz.prog X_12 w_11 (pickN x27_25 x31_27 (B false)) fun x32_28 =>
 (fin R X_12 w_11 x32_28))
 (rdV Tryz.prog X_12 w_11 (binS .eql 3 (.tmp 17) (.const (I 3)) (I p0_0) (I 3)) fun x34_30 =>
 (condW x34_30
 (rdV Tryz.prog X_12 w_11 (bld 87 #[(I p0_1), (I p0_2), (I p0_3), (I p0_4), (I p0_5), (I p0_6), p0_13, p0_14] #[(0, (.agg #[(I p0_1), (I p0_2), (I p0_3)])), (1, (.agg #[(I p0_4), (I p0_5), (I p0_6)])), (2, p0_13), (3, p0_14)]) fun x43_32 =>
 eC Tryz.prog R X_12 w_11 true 114 #[x43_32] fun x44_33 w_34 X_35 =>
 rdV Tryz.prog X_35 w_34 (binS .eql 27 (.tmp 44) (.const (I 0)) x44_33 (I 0)) fun x45_36 =>
 un (gSel x45_36 true p0_15) fun u_37 =>
 jn (fun (x49_38 : Value) (w_39 : World) (X_40 : XS) =>
 rdW Tryz.prog X_40 w_39 (pickN x45_36 x49_38 (B false)) fun x50_42 =>
 (fin R X_40 w_39 x50_42)) fun k_41 =>
 (gE x45_36 true (eC Tryz.prog R X_35 w_34 true 115 #[u_37] k_41) (k_41 undef w_34 X_35)))
 (rdV Tryz.prog X_12 w_11 (binS .eql 3 (.tmp 17) (.const (I 4)) (I p0_0) (I 4)) fun x52_44 =>
 (condW x52_44
 (un (gSel x15_10 true x12_6) fun u_46 =>
 rdW Tryz.prog X_12 w_11 (pickN x15_10 u_46 (B false)) fun x56_47 =>
 un (gSel x56_47 true x9_4) fun u_48 =>
 un (gSel x56_47 true (B p0_10)) fun u_49 =>
 grdW Tryz.prog X_12 w_11 x56_47 true (vS (Op.unary UnOp.not u_49)) fun x61_50 =>
 grdW Tryz.prog X_12 w_11 x56_47 true (vS (binS .eql 4 (.tmp 58) (.tmp 61) u_48 x61_50)) fun x62_51 =>
 rdW Tryz.prog X_12 w_11 (pickN x56_47 x62_51 (B false)) fun x63_52 =>
 (fin R X_12 w_11 x63_52))
 (rdV Tryz.prog X_12 w_11 (binS .eql 3 (.tmp 17) (.const (I 5)) (I p0_0) (I 5)) fun x65_54 =>
 (condW x65_54
 (fin R X_12 w_11 x12_6)
 (rdV Tryz.prog X_12 w_11 (binS .eql 3 (.tmp 17) (.const (I 6)) (I p0_0) (I 6)) fun x68_57 =>
 (condW x68_57
 (rdV Tryz.prog X_12 w_11 (binOp .gtr 40 (.float .f64 p0_12) (.float .f64 0)) fun x71_59 =>
 un (gSel x71_59 true (.float .f64 p0_12)) fun u_60 =>
 grdW Tryz.prog X_12 w_11 x71_59 true (vS (binOp .lss 40 u_60 (.float .f64 4607182418800017408))) fun x75_61 =>
 rdW Tryz.prog X_12 w_11 (pickN x71_59 x75_61 (B false)) fun x76_62 =>
 un (gSel x76_62 true (I p0_11)) fun u_63 =>
 grdW Tryz.prog X_12 w_11 x76_62 true (vS (binOp .geq 3 u_63 (I 1))) fun x80_64 =>
 rdW Tryz.prog X_12 w_11 (pickN x76_62 x80_64 (B false)) fun x81_65 =>
 un (gSel x81_65 true (I p0_11)) fun u_66 =>
 grdW Tryz.prog X_12 w_11 x81_65 true (vS (binOp .leq 3 u_66 (I 12))) fun x85_67 =>
 rdW Tryz.prog X_12 w_11 (pickN x81_65 x85_67 (B false)) fun x86_68 =>
 un (gSel x86_68 true x12_6) fun u_69 =>
 rdW Tryz.prog X_12 w_11 (pickN x86_68 u_69 (B false)) fun x89_70 =>
 (fin R X_12 w_11 x89_70))
 (rdV Tryz.prog X_12 w_11 (binS .eql 3 (.tmp 17) (.const (I 7)) (I p0_0) (I 7)) fun x91_72 =>
 (condW x91_72
 (rdV Tryz.prog X_12 w_11 (binOp .geq 3 (I p0_11) (I 1)) fun x94_74 =>
 un (gSel x94_74 true (I p0_11)) fun u_75 =>
 grdW Tryz.prog X_12 w_11 x94_74 true (vS (binOp .leq 3 u_75 (I 12))) fun x98_76 =>
 rdW Tryz.prog X_12 w_11 (pickN x94_74 x98_76 (B false)) fun x99_77 =>
 (fin R X_12 w_11 x99_77))
 (rdV Tryz.prog X_12 w_11 (binS .eql 3 (.tmp 17) (.const (I 8)) (I p0_0) (I 8)) fun x101_79 =>
 (condW x101_79
 (rdV Tryz.prog X_12 w_11 (binOp .geq 3 (I p0_11) (I 1)) fun x104_81 =>
 (fin R X_12 w_11 x104_81))
 (rdV Tryz.prog X_12 w_11 (binS .eql 3 (.tmp 17) (.const (I 9)) (I p0_0) (I 9)) fun x106_83 =>
 (condW x106_83
 (un (gSel x15_10 true x12_6) fun u_85 =>
 rdW Tryz.prog X_12 w_11 (pickN x15_10 u_85 (B false)) fun x110_86 =>
 un (gSel x110_86 true x9_4) fun u_87 =>
 grdW Tryz.prog X_12 w_11 x110_86 true (vS (Op.unary UnOp.not u_87)) fun x113_88 =>
 rdW Tryz.prog X_12 w_11 (pickN x110_86 x113_88 (B false)) fun x114_89 =>
 un (gSel x114_89 true p0_15) fun u_90 =>
 jn (fun (x118_91 : Value) (w_92 : World) (X_93 : XS) =>
 rdW Tryz.prog X_93 w_92 (pickN x114_89 x118_91 (B false)) fun x119_95 =>
 (fin R X_93 w_92 x119_95)) fun k_94 =>
 (gE x114_89 true (eC Tryz.prog R X_12 w_11 true 115 #[u_90] k_94) (k_94 undef w_11 X_12)))
 (rdV Tryz.prog X_12 w_11 (binS .eql 3 (.tmp 17) (.const (I 10)) (I p0_0) (I 10)) fun x121_97 =>
 (condW x121_97
 (fin R X_12 w_11 x15_10)
 (rdV Tryz.prog X_12 w_11 (binS .eql 3 (.tmp 17) (.const (I 11)) (I p0_0) (I 11)) fun x124_100 =>
 (condW x124_100
 (eC Tryz.prog R X_12 w_11 true 116 #[(.agg #[(I p0_7), (I p0_8), (I p0_9)]), (.agg #[(I p0_4), (I p0_5), (I p0_6)]), (.agg #[(I p0_1), (I p0_2), (I p0_3)]), p0_14] fun x133_102 w_103 X_104 =>
 (fin R X_104 w_103 x133_102))
 (((un (gSel x12_6 true p0_16) fun u_106 =>
 jn (fun (x138_107 : Value) (w_108 : World) (X_109 : XS) =>
 rdW Tryz.prog X_109 w_108 (pickN x12_6 x138_107 (B false)) fun x139_111 =>
 (fin R X_109 w_108 x139_111)) fun k_110 =>
 (gE x12_6 true (eC Tryz.prog R X_12 w_11 true 117 #[u_106] k_110) (k_110 undef w_11 X_12)))))))))))))))))))))))))))))))
theorem ok_raceref11_good {R : Ending → World → Prop} {w0 : World} {p0_0 p0_1 p0_2 p0_3 p0_4 p0_5 p0_6 p0_7 p0_8 p0_9 : Int} {p0_10 : Bool} {p0_11 : Int} {p0_12 : Nat} {p0_13 p0_14 p0_15 p0_16 : Value} {p0_17 p0_18 : Int} {p0_19 p0_20 : Nat} {p0_21 p0_22 p0_23 p0_24 p0_25 p0_26 : Int} {p0_27 p0_28 : Value} (h : vc_raceref11_good R w0 (old w0) p0_0 p0_1 p0_2 p0_3 p0_4 p0_5 p0_6 p0_7 p0_8 p0_9 p0_10 p0_11 p0_12 p0_13 p0_14 p0_15 p0_16 p0_17 p0_18 p0_19 p0_20 p0_21 p0_22 p0_23 p0_24 p0_25 p0_26 p0_27 p0_28) : Calls Tryz.prog 87 #[(.agg #[(I p0_0), (I p0_1), (I p0_2), (I p0_3), (I p0_4), (I p0_5), (I p0_6), (I p0_7), (I p0_8), (I p0_9), (B p0_10), (I p0_11), (.float .f64 p0_12), p0_13, p0_14, p0_15, p0_16, (I p0_17), (I p0_18), (.float .f64 p0_19), (.float .f64 p0_20), (I p0_21), (I p0_22), (I p0_23), (I p0_24), (I p0_25), (I p0_26), p0_27, p0_28])] w0 R :=
  calls_of_vc (pl := pl_raceref11_good) Tryz.func87 (by kernel_rfl) (by kernel_rfl) h
noncomputable def pl_raceref8_Compare : Plan := ⟨26, [(2, (Tryz.prog.cellsOf 34)), (3, (Tryz.prog.cellsOf 34))], [6, 8, 13, 15, 20, 22], [0, 1, 4, 5, 12, 19], [], []⟩
def vc_raceref8_Compare (R : Ending → World → Prop) (w0 : World) (X0 : XS) (p0_0 p0_1 p0_2 p1_0 p1_1 p1_2 : Int) : Prop :=
 (eC Tryz.prog R X0 w0 true 118 #[(I p0_0), (I p1_0)] fun x10_3 w_4 X_5 =>
 ((jn (fun (y5_12 : Value) (w_13 : World) (X_14 : XS) =>
 (jn (fun (y5_22 : Value) (w_23 : World) (X_24 : XS) =>
 (fin R X_24 w_23 y5_22)) fun k_25 =>
 rdV Tryz.prog X_14 w_13 (binS .eql 3 (.tmp 18) (.const (I 0)) y5_12 (I 0)) fun x19_18 =>
 (condW x19_18
 (eC Tryz.prog R X_14 w_13 true 118 #[(I p0_2), (I p1_2)] fun x24_19 w_20 X_21 =>
 (k_25 x24_19 w_20 X_21))
 (k_25 y5_12 w_13 X_14)))) fun k_15 =>
 rdV Tryz.prog X_5 w_4 (binS .eql 3 (.tmp 11) (.const (I 0)) x10_3 (I 0)) fun x12_8 =>
 (condW x12_8
 (eC Tryz.prog R X_5 w_4 true 118 #[(I p0_1), (I p1_1)] fun x17_9 w_10 X_11 =>
 (k_15 x17_9 w_10 X_11))
 (k_15 x10_3 w_4 X_5)))))
theorem ok_raceref8_Compare {R : Ending → World → Prop} {w0 : World} {p0_0 p0_1 p0_2 p1_0 p1_1 p1_2 : Int} (h : vc_raceref8_Compare R w0 (old w0) p0_0 p0_1 p0_2 p1_0 p1_1 p1_2) : Calls Tryz.prog 88 #[(.agg #[(I p0_0), (I p0_1), (I p0_2)]), (.agg #[(I p1_0), (I p1_1), (I p1_2)])] w0 R :=
  calls_of_vc (pl := pl_raceref8_Compare) Tryz.func88 (by kernel_rfl) (by kernel_rfl) h
noncomputable def pl_raceref4_Of : Plan := ⟨8, [], [], [0, 2], [], []⟩
def vc_raceref4_Of (R : Ending → World → Prop) (w0 : World) (X0 : XS) (p0 : ByteArray) : Prop :=
 (eC Tryz.prog R X0 w0 true 119 #[(.string p0)] fun x4_3 w_4 X_5 =>
 rdV Tryz.prog X_5 w_4 (binOp .shr 129 x4_3 (Value.int IntKind.u64 11)) fun x5_6 =>
 rdV Tryz.prog X_5 w_4 (cvF 129 40 x5_6) fun x6_7 =>
 rdV Tryz.prog X_5 w_4 (binOp .quo 40 x6_7 (.float .f64 4845873199050653696)) fun x7_8 =>
 (fin R X_5 w_4 x7_8))
theorem ok_raceref4_Of {R : Ending → World → Prop} {w0 : World} {p0 : ByteArray} (h : vc_raceref4_Of R w0 (old w0) p0) : Calls Tryz.prog 89 #[(.string p0)] w0 R :=
  calls_of_vc (pl := pl_raceref4_Of) Tryz.func89 (by kernel_rfl) (by kernel_rfl) h
noncomputable def pl_raceref8_May : Plan := ⟨31, [(1, (Tryz.prog.cellsOf 34))], [3, 7, 12, 17, 22, 27], [0, 2], [6, 8, 9, 11, 13, 14, 16, 18, 19, 21, 23, 24, 26, 28, 29], []⟩
def vc_raceref8_May (R : Ending → World → Prop) (w0 : World) (X0 : XS) (p0_0 p0_1 p0_2 : Int) : Prop :=
 (rdV Tryz.prog X0 w0 (binOp .geq 3 (I p0_0) (I 0)) fun x5_3 =>
 un (gSel x5_3 true (I p0_0)) fun u_4 =>
 grdW Tryz.prog X0 w0 x5_3 true (vS (binOp .leq 3 u_4 (I 281474976710656))) fun x9_5 =>
 rdW Tryz.prog X0 w0 (pickN x5_3 x9_5 (B false)) fun x10_6 =>
 un (gSel x10_6 true (I p0_1)) fun u_7 =>
 grdW Tryz.prog X0 w0 x10_6 true (vS (binOp .geq 3 u_7 (I 0))) fun x14_8 =>
 rdW Tryz.prog X0 w0 (pickN x10_6 x14_8 (B false)) fun x15_9 =>
 un (gSel x15_9 true (I p0_1)) fun u_10 =>
 grdW Tryz.prog X0 w0 x15_9 true (vS (binOp .leq 3 u_10 (I 65535))) fun x19_11 =>
 rdW Tryz.prog X0 w0 (pickN x15_9 x19_11 (B false)) fun x20_12 =>
 un (gSel x20_12 true (I p0_2)) fun u_13 =>
 grdW Tryz.prog X0 w0 x20_12 true (vS (binOp .geq 3 u_13 (I 0))) fun x24_14 =>
 rdW Tryz.prog X0 w0 (pickN x20_12 x24_14 (B false)) fun x25_15 =>
 un (gSel x25_15 true (I p0_2)) fun u_16 =>
 grdW Tryz.prog X0 w0 x25_15 true (vS (binOp .leq 3 u_16 (I 63))) fun x29_17 =>
 rdW Tryz.prog X0 w0 (pickN x25_15 x29_17 (B false)) fun x30_18 =>
 (fin R X0 w0 x30_18))
theorem ok_raceref8_May {R : Ending → World → Prop} {w0 : World} {p0_0 p0_1 p0_2 : Int} (h : vc_raceref8_May R w0 (old w0) p0_0 p0_1 p0_2) : Calls Tryz.prog 90 #[(.agg #[(I p0_0), (I p0_1), (I p0_2)])] w0 R :=
  calls_of_vc (pl := pl_raceref8_May) Tryz.func90 (by kernel_rfl) (by kernel_rfl) h
noncomputable def pl_recs_zeroState : Plan := ⟨51, [(1, (Tryz.prog.cellsOf 49))], [3, 4, 8, 9, 14, 15, 21, 22, 28, 34, 40, 46], [0, 2], [7, 10, 11, 13, 16, 17, 18, 20, 23, 24, 25, 27, 29, 30, 31, 33, 35, 36, 37, 39, 41, 42, 43, 45, 47, 48, 49], []⟩
def vc_recs_zeroState (R : Ending → World → Prop) (w0 : World) (X0 : XS) (p0_0 p0_1 : Int) (p0_2 p0_3 : Nat) (p0_4 p0_5 p0_6 p0_7 p0_8 p0_9 : Int) (p0_10 p0_11 : Value) : Prop :=
 (rdV Tryz.prog X0 w0 (binS .eql 3 (.tmp 5) (.const (I 0)) (I p0_0) (I 0)) fun x6_3 =>
 un (gSel x6_3 true (I p0_1)) fun u_4 =>
 grdW Tryz.prog X0 w0 x6_3 true (vS (binS .eql 3 (.tmp 10) (.const (I 0)) u_4 (I 0))) fun x11_5 =>
 rdW Tryz.prog X0 w0 (pickN x6_3 x11_5 (B false)) fun x12_6 =>
 un (gSel x12_6 true (.float .f64 p0_2)) fun u_7 =>
 jn (fun (x17_8 : Value) (w_9 : World) (X_10 : XS) =>
 grdW Tryz.prog X_10 w_9 x12_6 true (vS (binS .eql 129 (.tmp 17) (.const (Value.int IntKind.u64 0)) x17_8 (Value.int IntKind.u64 0))) fun x18_12 =>
 rdW Tryz.prog X_10 w_9 (pickN x12_6 x18_12 (B false)) fun x19_13 =>
 un (gSel x19_13 true (.float .f64 p0_3)) fun u_14 =>
 jn (fun (x24_15 : Value) (w_16 : World) (X_17 : XS) =>
 grdW Tryz.prog X_17 w_16 x19_13 true (vS (binS .eql 129 (.tmp 24) (.const (Value.int IntKind.u64 0)) x24_15 (Value.int IntKind.u64 0))) fun x25_19 =>
 rdW Tryz.prog X_17 w_16 (pickN x19_13 x25_19 (B false)) fun x26_20 =>
 un (gSel x26_20 true (.agg #[(I p0_4), (I p0_5), (I p0_6)])) fun u_21 =>
 grdW Tryz.prog X_17 w_16 x26_20 true (vS (bld 34 #[(I 0), (I 0), (I 0)] #[])) fun x30_22 =>
 grdW Tryz.prog X_17 w_16 x26_20 true (vS (binS .eql 34 (.tmp 29) (.tmp 30) u_21 x30_22)) fun x31_23 =>
 rdW Tryz.prog X_17 w_16 (pickN x26_20 x31_23 (B false)) fun x32_24 =>
 un (gSel x32_24 true (.agg #[(I p0_7), (I p0_8), (I p0_9)])) fun u_25 =>
 grdW Tryz.prog X_17 w_16 x32_24 true (vS (bld 34 #[(I 0), (I 0), (I 0)] #[])) fun x36_26 =>
 grdW Tryz.prog X_17 w_16 x32_24 true (vS (binS .eql 34 (.tmp 35) (.tmp 36) u_25 x36_26)) fun x37_27 =>
 rdW Tryz.prog X_17 w_16 (pickN x32_24 x37_27 (B false)) fun x38_28 =>
 un (gSel x38_28 true p0_10) fun u_29 =>
 grdW Tryz.prog X_17 w_16 x38_28 true (vS (lnS 46 3 u_29)) fun x42_30 =>
 grdW Tryz.prog X_17 w_16 x38_28 true (vS (binS .eql 3 (.tmp 42) (.const (I 0)) x42_30 (I 0))) fun x43_31 =>
 rdW Tryz.prog X_17 w_16 (pickN x38_28 x43_31 (B false)) fun x44_32 =>
 un (gSel x44_32 true p0_11) fun u_33 =>
 grdW Tryz.prog X_17 w_16 x44_32 true (vS (lnS 47 3 u_33)) fun x48_34 =>
 grdW Tryz.prog X_17 w_16 x44_32 true (vS (binS .eql 3 (.tmp 48) (.const (I 0)) x48_34 (I 0))) fun x49_35 =>
 rdW Tryz.prog X_17 w_16 (pickN x44_32 x49_35 (B false)) fun x50_36 =>
 (fin R X_17 w_16 x50_36)) fun k_18 =>
 (gE x19_13 true (eC Tryz.prog R X_10 w_9 true 72 #[u_14] k_18) (k_18 undef w_9 X_10))) fun k_11 =>
 (gE x12_6 true (eC Tryz.prog R X0 w0 true 72 #[u_7] k_11) (k_11 undef w0 X0)))
theorem ok_recs_zeroState {R : Ending → World → Prop} {w0 : World} {p0_0 p0_1 : Int} {p0_2 p0_3 : Nat} {p0_4 p0_5 p0_6 p0_7 p0_8 p0_9 : Int} {p0_10 p0_11 : Value} (h : vc_recs_zeroState R w0 (old w0) p0_0 p0_1 p0_2 p0_3 p0_4 p0_5 p0_6 p0_7 p0_8 p0_9 p0_10 p0_11) : Calls Tryz.prog 101 #[(.agg #[(I p0_0), (I p0_1), (.float .f64 p0_2), (.float .f64 p0_3), (I p0_4), (I p0_5), (I p0_6), (I p0_7), (I p0_8), (I p0_9), p0_10, p0_11])] w0 R :=
  calls_of_vc (pl := pl_recs_zeroState) Tryz.func101 (by kernel_rfl) (by kernel_rfl) h
noncomputable def pl_recs_StateMay : Plan := ⟨87, [(7, (Tryz.prog.cellsOf 142)), (9, (Tryz.prog.cellsOf 87)), (13, (Tryz.prog.cellsOf 66))], [49, 61, 73, 81], [0, 1, 2, 4, 5, 11, 29, 39, 42, 43, 44, 45, 52, 55, 56, 57, 58, 62, 63, 64, 65, 71, 74, 75, 76, 77, 84], [18, 19, 20, 21, 22, 24, 25, 26, 27, 28], [44, 57, 64, 76]⟩
def vc_recs_StateMay (R : Ending → World → Prop) (w0 : World) (X0 : XS) (p0_0 p0_1 : Int) (p0_2 p0_3 : Nat) (p0_4 p0_5 p0_6 p0_7 p0_8 p0_9 : Int) (p0_10 p0_11 : Value) : Prop :=
 eV Tryz.prog R X0 w0 true (Instr.box 49 (.agg #[(I p0_0), (I p0_1), (.float .f64 p0_2), (.float .f64 p0_3), (I p0_4), (I p0_5), (I p0_6), (I p0_7), (I p0_8), (I p0_9), p0_10, p0_11])) fun x1_2 w_3 X_4 =>
 (rdV Tryz.prog X_4 w_3 (fld 49 0 0 4 x1_2) fun x14_7 =>
 rdV Tryz.prog X_4 w_3 (ldA 45 4 x14_7) fun x15_8 =>
 eC Tryz.prog R X_4 w_3 true 125 #[x15_8] fun x16_9 w_10 X_11 =>
 rdV Tryz.prog X_11 w_10 (Op.unary UnOp.not x16_9) fun x17_12 =>
 grdW Tryz.prog X_11 w_10 x17_12 false (vS (fld 49 1 4 3 x1_2)) fun x19_13 =>
 grdW Tryz.prog X_11 w_10 x17_12 false (vS (ldA 34 3 x19_13)) fun x20_14 =>
 jn (fun (x21_15 : Value) (w_16 : World) (X_17 : XS) =>
 grdW Tryz.prog X_17 w_16 x17_12 false (vS (Op.unary UnOp.not x21_15)) fun x22_19 =>
 rdW Tryz.prog X_17 w_16 (pickN x17_12 (B true) x22_19) fun x23_20 =>
 grdW Tryz.prog X_17 w_16 x23_20 false (vS (fld 49 2 7 3 x1_2)) fun x25_21 =>
 grdW Tryz.prog X_17 w_16 x23_20 false (vS (ldA 34 3 x25_21)) fun x26_22 =>
 jn (fun (x27_23 : Value) (w_24 : World) (X_25 : XS) =>
 grdW Tryz.prog X_25 w_24 x23_20 false (vS (Op.unary UnOp.not x27_23)) fun x28_27 =>
 rdW Tryz.prog X_25 w_24 (pickN x23_20 (B true) x28_27) fun x29_28 =>
 (condW x29_28
 (fin R X_25 w_24 (B false))
 ((rdV Tryz.prog X_25 w_24 (fld 49 3 10 1 x1_2) fun x31_32 =>
 rdV Tryz.prog X_25 w_24 (ld1 46 x31_32) fun x32_33 =>
 rdV Tryz.prog X_25 w_24 (fld 49 4 11 1 x1_2) fun x33_34 =>
 rdV Tryz.prog X_25 w_24 (ld1 47 x33_34) fun x34_35 =>
 eC Tryz.prog R X_25 w_24 true 126 #[x32_33, x34_35] fun x35_36 w_37 X_38 =>
 rdV Tryz.prog X_38 w_37 (Instr.extract x35_36 0) fun _ =>
 rdV Tryz.prog X_38 w_37 (Instr.extract x35_36 1) fun x37_40 =>
 (rdV Tryz.prog X_38 w_37 (binS .neq 27 (.tmp 38) (.const (I 0)) x37_40 (I 0)) fun x39_42 =>
 (condW x39_42
 (fin R X_38 w_37 (B false))
 ((rdV Tryz.prog X_38 w_37 (Instr.makeFunc (Fn.func 127) #[] #[x1_2]) fun x40_45 =>
 (rdV Tryz.prog X_38 w_37 (fld 49 3 10 1 x1_2) fun x41_48 =>
 rdV Tryz.prog X_38 w_37 (ld1 46 x41_48) fun x42_49 =>
 rdV Tryz.prog X_38 w_37 (lnS 46 3 x42_49) fun x43_50 =>
 (lp1 X_38 w_37 (I 0) 44 fun J_52 n_53 v_57 w_55 X_56 =>
 rdV Tryz.prog X_56 w_55 (binOp .lss 3 v_57 x43_50) fun x45_59 =>
 (condW x45_59
 ((rdV Tryz.prog X_56 w_55 (ixS 46 2 x42_49 v_57) fun x46_64 =>
 rdV Tryz.prog X_56 w_55 (ldA 142 2 x46_64) fun x47_65 =>
 un (Value.agg (Value.cells x47_65)) fun u_66 =>
 chk (List.length (Array.toList (Value.cells x47_65)) == 2) (chk (List.all (Array.toList (Value.cells x47_65)) one) ((chk (isA u_66) (un (cellOf u_66 0) fun u_68 =>
 eF Tryz.prog R X_56 w_55 true x40_45 #[u_68] fun x51_69 w_70 X_71 =>
 rdV Tryz.prog X_71 w_70 (Op.unary UnOp.not x51_69) fun x52_72 =>
 (condW x52_72
 (fin R X_71 w_70 (B false))
 (((rdV Tryz.prog X_71 w_70 (binOp .add 3 v_57 (I 1)) fun x53_74 =>
 nx1 J_52 n_53 x53_74 w_70 X_71))))))))))
 (((rdV Tryz.prog X_56 w_55 (fld 49 4 11 1 x1_2) fun x54_77 =>
 rdV Tryz.prog X_56 w_55 (ld1 47 x54_77) fun x55_78 =>
 rdV Tryz.prog X_56 w_55 (lnS 47 3 x55_78) fun x56_79 =>
 (lp3 X_56 w_55 (I 0) undef undef 57 76 64 fun J_81 n_82 v_86 _ _ w_84 X_85 =>
 rdV Tryz.prog X_85 w_84 (binOp .lss 3 v_86 x56_79) fun x58_90 =>
 (condW x58_90
 ((rdV Tryz.prog X_85 w_84 (ixS 47 8 x55_78 v_86) fun x59_95 =>
 rdV Tryz.prog X_85 w_84 (ldA 87 8 x59_95) fun x60_96 =>
 un (Value.agg (Value.cells x60_96)) fun u_97 =>
 chk (List.length (Array.toList (Value.cells x60_96)) == 8) (chk (List.all (Array.toList (Value.cells x60_96)) one) ((chk (isA u_97) (un (cellOf u_97 6) fun u_100 =>
 rdV Tryz.prog X_85 w_84 (lnS 41 3 u_100) fun x63_101 =>
 (lp1 X_85 w_84 (I 0) 64 fun J_103 n_104 v_108 w_106 X_107 =>
 rdV Tryz.prog X_107 w_106 (binOp .lss 3 v_108 x63_101) fun x65_110 =>
 (condW x65_110
 ((rdV Tryz.prog X_107 w_106 (ixS 41 1 u_100 v_108) fun x66_115 =>
 rdV Tryz.prog X_107 w_106 (ld1 9 x66_115) fun x67_116 =>
 (eF Tryz.prog R X_107 w_106 true x40_45 #[x67_116] fun x70_118 w_119 X_120 =>
 rdV Tryz.prog X_120 w_119 (Op.unary UnOp.not x70_118) fun x71_121 =>
 (condW x71_121
 (fin R X_120 w_119 (B false))
 (((rdV Tryz.prog X_120 w_119 (binOp .add 3 v_108 (I 1)) fun x72_123 =>
 nx1 J_103 n_104 x72_123 w_119 X_120)))))))
 (((chk (isA u_97) (un (cellOf u_97 7) fun u_125 =>
 rdV Tryz.prog X_107 w_106 (lnS 42 3 u_125) fun x75_126 =>
 (lp1 X_107 w_106 (I 0) 76 fun J_128 n_129 v_133 w_131 X_132 =>
 rdV Tryz.prog X_132 w_131 (binOp .lss 3 v_133 x75_126) fun x77_135 =>
 (condW x77_135
 ((rdV Tryz.prog X_132 w_131 (ixS 42 4 u_125 v_133) fun x78_140 =>
 rdV Tryz.prog X_132 w_131 (ldA 66 4 x78_140) fun x79_141 =>
 un (Value.agg (Value.cells x79_141)) fun u_142 =>
 chk (List.length (Array.toList (Value.cells x79_141)) == 4) (chk (List.all (Array.toList (Value.cells x79_141)) one) ((chk (isA u_142) (un (cellOf u_142 0) fun u_144 =>
 eF Tryz.prog R X_132 w_131 true x40_45 #[u_144] fun x83_145 w_146 X_147 =>
 rdV Tryz.prog X_147 w_146 (Op.unary UnOp.not x83_145) fun x84_148 =>
 (condW x84_148
 (fin R X_147 w_146 (B false))
 (((rdV Tryz.prog X_147 w_146 (binOp .add 3 v_133 (I 1)) fun x85_150 =>
 nx1 J_128 n_129 x85_150 w_146 X_147))))))))))
 ((((rdV Tryz.prog X_132 w_131 (binOp .add 3 v_86 (I 1)) fun x86_151 =>
 nx3 J_81 n_82 x86_151 v_133 v_108 w_131 X_132))))))))))))))))))
 (fin R X_85 w_84 (B true)))))))))))))))))) fun k_26 =>
 (gE x23_20 false (eC Tryz.prog R X_17 w_16 true 78 #[x26_22] k_26) (k_26 undef w_16 X_17))) fun k_18 =>
 (gE x17_12 false (eC Tryz.prog R X_11 w_10 true 78 #[x20_14] k_18) (k_18 undef w_10 X_11)))
theorem ok_recs_StateMay {R : Ending → World → Prop} {w0 : World} {p0_0 p0_1 : Int} {p0_2 p0_3 : Nat} {p0_4 p0_5 p0_6 p0_7 p0_8 p0_9 : Int} {p0_10 p0_11 : Value} (h : vc_recs_StateMay R w0 (old w0) p0_0 p0_1 p0_2 p0_3 p0_4 p0_5 p0_6 p0_7 p0_8 p0_9 p0_10 p0_11) : Calls Tryz.prog 102 #[(.agg #[(I p0_0), (I p0_1), (.float .f64 p0_2), (.float .f64 p0_3), (I p0_4), (I p0_5), (I p0_6), (I p0_7), (I p0_8), (I p0_9), p0_10, p0_11])] w0 R :=
  calls_of_vc (pl := pl_recs_StateMay) Tryz.func102 (by kernel_rfl) (by kernel_rfl) h
noncomputable def pl_mvcc_PendingMay : Plan := ⟨45, [(1, (Tryz.prog.cellsOf 87)), (4, (Tryz.prog.cellsOf 66))], [6, 11, 16, 22, 27, 33, 40], [0, 2, 5, 10, 21, 34, 35, 36, 37, 43], [15, 17, 18, 19, 26, 28, 29, 30, 31], [36]⟩
def vc_mvcc_PendingMay (R : Ending → World → Prop) (w0 : World) (X0 : XS) (p0_0 p0_1 p0_2 p0_3 p0_4 p0_5 : Int) (p0_6 p0_7 : Value) : Prop :=
 (eC Tryz.prog R X0 w0 true 105 #[(.agg #[(I p0_0), (I p0_1), (I p0_2)])] fun x8_5 w_6 X_7 =>
 rdV Tryz.prog X_7 w_6 (Op.unary UnOp.not x8_5) fun x9_8 =>
 (condW x9_8
 (fin R X_7 w_6 (I 4))
 (eC Tryz.prog R X_7 w_6 true 78 #[(.agg #[(I p0_3), (I p0_4), (I p0_5)])] fun x13_11 w_12 X_13 =>
 rdV Tryz.prog X_13 w_12 (Op.unary UnOp.not x13_11) fun x14_14 =>
 un (gSel x14_14 false (.agg #[(I p0_3), (I p0_4), (I p0_5)])) fun u_15 =>
 grdW Tryz.prog X_13 w_12 x14_14 false (vS (bld 34 #[(I 0), (I 0), (I 0)] #[])) fun x18_16 =>
 grdW Tryz.prog X_13 w_12 x14_14 false (vS (binS .eql 34 (.tmp 17) (.tmp 18) u_15 x18_16)) fun x19_17 =>
 rdW Tryz.prog X_13 w_12 (pickN x14_14 (B true) x19_17) fun x20_18 =>
 (condW x20_18
 (fin R X_13 w_12 (I 17))
 (eC Tryz.prog R X_13 w_12 true 129 #[p0_6] fun x24_21 w_22 X_23 =>
 rdV Tryz.prog X_23 w_22 (Op.unary UnOp.not x24_21) fun x25_24 =>
 un (gSel x25_24 false p0_7) fun u_25 =>
 jn (fun (x29_26 : Value) (w_27 : World) (X_28 : XS) =>
 jn (fun (x30_30 : Value) (w_31 : World) (X_32 : XS) =>
 grdW Tryz.prog X_32 w_31 x25_24 false (vS (Op.unary UnOp.not x30_30)) fun x31_34 =>
 rdW Tryz.prog X_32 w_31 (pickN x25_24 (B true) x31_34) fun x32_35 =>
 (condW x32_35
 (fin R X_32 w_31 (I 4))
 (((rdV Tryz.prog X_32 w_31 (lnS 42 3 p0_7) fun x35_39 =>
 (lp1 X_32 w_31 (I 0) 36 fun J_41 n_42 v_46 w_44 X_45 =>
 rdV Tryz.prog X_45 w_44 (binOp .lss 3 v_46 x35_39) fun x37_48 =>
 (condW x37_48
 ((rdV Tryz.prog X_45 w_44 (ixS 42 4 p0_7 v_46) fun x38_53 =>
 rdV Tryz.prog X_45 w_44 (ldA 66 4 x38_53) fun x39_54 =>
 un (Value.agg (Value.cells x39_54)) fun u_55 =>
 chk (List.length (Array.toList (Value.cells x39_54)) == 4) (chk (List.all (Array.toList (Value.cells x39_54)) one) ((chk (isA u_55) (un (subOf u_55 1 3) fun u_57 =>
 eC Tryz.prog R X_45 w_44 true 131 #[u_57] fun x42_58 w_59 X_60 =>
 rdV Tryz.prog X_60 w_59 (Op.unary UnOp.not x42_58) fun x43_61 =>
 (condW x43_61
 (fin R X_60 w_59 (I 4))
 (((rdV Tryz.prog X_60 w_59 (binOp .add 3 v_46 (I 1)) fun x44_63 =>
 nx1 J_41 n_42 x44_63 w_59 X_60))))))))))
 (fin R X_45 w_44 (I 0))))))))) fun k_33 =>
 (gE x25_24 false (eC Tryz.prog R X_28 w_27 true 129 #[x29_26] k_33) (k_33 undef w_27 X_28))) fun k_29 =>
 (gE x25_24 false (eC Tryz.prog R X_23 w_22 true 130 #[u_25] k_29) (k_29 undef w_22 X_23)))))))
theorem ok_mvcc_PendingMay {R : Ending → World → Prop} {w0 : World} {p0_0 p0_1 p0_2 p0_3 p0_4 p0_5 : Int} {p0_6 p0_7 : Value} (h : vc_mvcc_PendingMay R w0 (old w0) p0_0 p0_1 p0_2 p0_3 p0_4 p0_5 p0_6 p0_7) : Calls Tryz.prog 103 #[(.agg #[(I p0_0), (I p0_1), (I p0_2), (I p0_3), (I p0_4), (I p0_5), p0_6, p0_7])] w0 R :=
  calls_of_vc (pl := pl_mvcc_PendingMay) Tryz.func103 (by kernel_rfl) (by kernel_rfl) h
end Go.Proofs.YtnphlhpdikmpiaaGreat
