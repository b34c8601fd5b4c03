/-
  Part 8 of the proof: what the last text leans on.
-/
import Derived.Test.YtpdkoaklobnegaaGreatRows
import Derived.WalkKit
import Derived.ProofKit
import Derived.Deep.Slices
import Derived.Carry
import Derived.Test.YtpdkoaklobnegaaGreatH7
namespace Go.Proofs.YtpdkoaklobnegaaGreat
open Go.Eng
set_option maxRecDepth 100000
set_option maxHeartbeats 1000000
theorem flat_getR {α : Type} [Inhabited α] {enc : α → List Value} {k : Nat} (hk : ∀ x, (enc x).length = k) (h0 : 0 < k) : ∀ (l : List α) (t : Nat), t < l.length * k → ((l.map enc).flatten)[t]? = some ((enc l[t / k]!)[t % k]!)
  | [], t, h => by simp at h
  | x :: l, t, h => by
    rw [List.map_cons, List.flatten_cons]
    by_cases ht : t < k
    · rw [List.getElem?_append_left (by rw [hk]; exact ht), Nat.div_eq_of_lt ht, Nat.mod_eq_of_lt ht]
      have : t < (enc x).length := by rw [hk]; exact ht
      simp [this]
    · obtain ⟨s, rfl⟩ : ∃ s, t = s + k := ⟨t - k, by omega⟩
      rw [List.getElem?_append_right (by rw [hk]; omega), hk, Nat.add_sub_cancel, Nat.add_div_right _ h0, Nat.add_mod_right]
      have hs : s < l.length * k := by rw [List.length_cons, Nat.succ_mul] at h; omega
      rw [flat_getR hk h0 l s hs]
      simp
class Wt (α : Type) where
  wt : α → Nat
  pos : ∀ a, 1 ≤ wt a
instance : Wt Int := ⟨fun _ => 1, fun _ => Nat.le_refl _⟩
def wt64 (n : Nat) : Nat := if n < 18446744073709551616 then 1 else 1073741824
theorem wt64_pos (n : Nat) : 1 ≤ wt64 n := by unfold wt64; split <;> omega
instance : Wt Nat := ⟨wt64, wt64_pos⟩
instance : Wt Bool := ⟨fun _ => 1, fun _ => Nat.le_refl _⟩
instance : Wt BA := ⟨fun s => s.size + 1, fun _ => by omega⟩
instance {α : Type} [Wt α] : Wt (List α) := ⟨fun l => (l.map Wt.wt).sum + 1, fun _ => by omega⟩
theorem wt_len {α : Type} [Wt α] : ∀ l : List α, l.length ≤ (l.map Wt.wt).sum
  | [] => by simp
  | x :: l => by have := wt_len l; have := Wt.pos x; simp; omega
theorem wt_mem {α : Type} [Wt α] {x : α} : ∀ {l : List α}, x ∈ l → Wt.wt x ≤ (l.map Wt.wt).sum
  | y :: l, h => by
    rcases List.mem_cons.1 h with rfl | h
    · simp
    · have := wt_mem h; simp; omega
def RdT {α : Type} [Wt α] (t : TypeId) (rd : World → XS → List Value → α → Prop) : Prop :=
  ∀ (H : Type) (enc : TypeId × Value → H) (W : World) (fuel : Nat) (cs : List Value) (x : DataW H × List MemPlace), DataW.trod enc Tryz.prog W 0 (fun _ => true) true fuel t cs = some x → ∃ a, rd W (old W) cs a ∧ Wt.wt a ≤ Rows.uptoBulk x.1
theorem bulk_pos {H : Type} (d : DataW H) : 1 ≤ Rows.uptoBulk d := by
  cases d with
  | lit l => cases l <;> simp [Rows.uptoBulk]
  | nil => simp [Rows.uptoBulk]
  | ptr d => simp [Rows.uptoBulk]
  | slice elems spare => simp [Rows.uptoBulk]
  | agg parts => simp [Rows.uptoBulk]
  | iface t d => simp [Rows.uptoBulk]
  | map entries => simp [Rows.uptoBulk]
  | held h => simp [Rows.uptoBulk]
abbrev rdI : World → XS → List Value → Int → Prop := fun _ _ cs n => cs = [I n]
abbrev rdFl : World → XS → List Value → Nat → Prop := fun _ _ cs n => cs = [.float .f64 n]
abbrev rdB : World → XS → List Value → Bool → Prop := fun _ _ cs n => cs = [B n]
abbrev rdS : World → XS → List Value → BA → Prop := fun _ _ cs n => cs = [.string n]
abbrev rdL {α : Type} (k : Nat) (rd : World → XS → List Value → α → Prop) : World → XS → List Value → List α → Prop := fun w X cs xs => ∃ v, cs = [v] ∧ Rws w X k v rd xs
theorem rd_int {t : TypeId} (ht : Tryz.prog.underlying t = some (.int .i64)) : RdT t rdI := fun H enc W fuel cs x h => by
  obtain ⟨n, rfl, rfl, _⟩ := DataW.trod_int ht h
  exact ⟨n, rfl, bulk_pos _⟩
theorem rd_float {t : TypeId} (ht : Tryz.prog.underlying t = some (.float .f64)) : RdT t rdFl := fun H enc W fuel cs x h => by
  cases fuel with
  | zero => simp [DataW.trod] at h
  | succ n =>
    unfold DataW.trod at h
    rw [ht] at h
    split at h <;> simp_all
    obtain ⟨⟨h1, h2⟩, h3⟩ := h
    rename_i kk _ b he
    subst he
    have hb : b < 18446744073709551616 := by simpa [Lit.wf] using h2
    show wt64 b ≤ _
    unfold wt64
    rw [if_pos hb]
    exact bulk_pos _
theorem rd_bool {t : TypeId} (ht : Tryz.prog.underlying t = some .bool) : RdT t rdB := fun H enc W fuel cs x h => by
  obtain ⟨n, rfl, rfl⟩ := DataW.trod_bool ht h
  exact ⟨n, rfl, bulk_pos _⟩
theorem rd_str {t : TypeId} (ht : Tryz.prog.underlying t = some .string) : RdT t rdS := fun H enc W fuel cs x h => by
  obtain ⟨s, rfl, rfl, _⟩ := DataW.trod_string ht h
  refine ⟨s, rfl, ?_⟩
  show s.size + 1 ≤ s.data.toList.length + 1
  rw [Array.length_toList]; exact Nat.le_refl _
theorem sum_le {α H : Type} [Wt α] (f : Nat → α) (D : Nat → DataW H) : ∀ l : List Nat, (∀ i ∈ l, Wt.wt (f i) ≤ Rows.uptoBulk (D i)) → ((l.map f).map Wt.wt).sum ≤ Rows.uptoBulkAll (l.map D)
  | [], _ => by simp
  | i :: l, h => by
    have h1 := sum_le f D l fun j hj => h j (List.mem_cons_of_mem _ hj)
    have h2 := h i (by simp)
    simp only [List.map_cons, List.sum_cons, Rows.uptoBulkAll]
    omega
theorem cells_len {W : World} {a : Addr} {k : Nat} {cs : List Value} (h : W.cells? 0 a k = some cs) : cs.length = k ∧ ∀ j v, cs[j]? = some v → W.cell? (a.add j) = some v := by
  unfold World.cells? at h
  rw [if_pos (Nat.zero_le _)] at h
  have key : ∀ (l : List Nat) (cs : List Value), (l.mapM (m := Option) fun i => W.cell? (a.add i)) = some cs → cs.length = l.length ∧ ∀ (j : Nat) (v : Value), cs[j]? = some v → ∃ i : Nat, l[j]? = some i ∧ W.cell? (a.add i) = some v := by
    intro l
    induction l with
    | nil => intro cs h; simp at h; subst h; simp
    | cons i l ih =>
      intro cs h
      simp only [List.mapM_cons, Option.bind_eq_bind, Option.bind_eq_some_iff, Option.pure_def, Option.some.injEq] at h
      obtain ⟨v, hv, vs, hvs, rfl⟩ := h
      obtain ⟨h1, h2⟩ := ih vs hvs
      refine ⟨by simp [h1], fun j u hj => ?_⟩
      cases j with
      | zero => simp only [List.getElem?_cons_zero, Option.some.injEq] at hj; subst hj; exact ⟨i, rfl, hv⟩
      | succ j => simpa using h2 j u (by simpa using hj)
  obtain ⟨h1, h2⟩ := key _ _ h
  refine ⟨by simpa using h1, fun j v hj => ?_⟩
  obtain ⟨i, hi, hc⟩ := h2 j v hj
  have : i = j := by
    rw [List.getElem?_range (by simpa using (List.getElem?_eq_some_iff.1 hi).1)] at hi
    simpa using hi.symm
  rw [← this]; exact hc
theorem add_none (b o n : Nat) : (⟨b, o, none⟩ : Addr).add n = ⟨b, o + n, none⟩ := by
  unfold Addr.add
  split
  · rename_i h; subst h; rfl
  · rfl
theorem rd_slice {α : Type} [Wt α] {t e k : Nat} {rd : World → XS → List Value → α → Prop} (ht : Tryz.prog.underlying t = some (.slice e)) (hk : Tryz.prog.cellsOf e = k) (h0 : 0 < k) (he : RdT e rd) : RdT t (rdL k rd) := fun H enc W fuel cs x h => by
  rcases Go.Deep.open_slice ht h with ⟨rfl, rfl⟩ | ⟨a, len, cap, m, n, D, Pl, rfl, _, hlc, hcm, hm, rfl, hel⟩
  · exact ⟨[], ⟨_, rfl, Rws.nil _ _ _⟩, bulk_pos _⟩
  · rw [hk] at hel
    have hm' : m = cap := by simpa using hm
    have hall : ∀ i, i < len → ∃ (p : List Value × α), W.cells? 0 (a.add (i * k)) k = some p.1 ∧ rd W (old W) p.1 p.2 ∧ Wt.wt p.2 ≤ Rows.uptoBulk (D i) := fun i hi => by
      obtain ⟨cs', h1, h2⟩ := hel i (by omega)
      obtain ⟨b, h3, h4⟩ := he H enc W n cs' _ h2
      exact ⟨⟨cs', b⟩, h1, h3, h4⟩
    by_cases hl0 : len = 0
    · subst hl0
      refine ⟨[], ⟨_, rfl, [], ⟨by simp, by simp, some a, cap, rfl, by simp, by simp, by simp, Nat.le_trans hcm (by decide)⟩, rfl, by simp⟩, bulk_pos _⟩
    obtain ⟨p0, _⟩ := hall 0 (by omega)
    have : Inhabited (List Value × α) := ⟨p0⟩
    obtain ⟨f, hf⟩ := Go.Deep.choose_lt hall
    let row : Nat → List Value := fun i => if i < len then (f i).1 else List.replicate k undef
    have hrow : ∀ i, (row i).length = k := fun i => by
      show (if i < len then (f i).1 else List.replicate k undef).length = k
      split
      · exact (cells_len (hf i (by assumption)).1).1
      · simp
    have hrow' : ∀ i, i < len → row i = (f i).1 := fun i hi => if_pos hi
    obtain ⟨b, o, hab, c, ty, fr, hb, hc⟩ : ∃ b o, a = ⟨b, o, none⟩ ∧ ∃ c ty fr, W.heap[b]? = some (.cells c ty fr) ∧ ∀ i, i < len → ∀ j v, (row i)[j]? = some v → c[o + (i * k + j)]? = some v := by
      obtain ⟨b, o, sp⟩ := a
      have h1 : ∀ i, i < len → ∀ j v, (row i)[j]? = some v → W.cell? (((⟨b, o, sp⟩ : Addr).add (i * k)).add j) = some v := fun i hi j v hj => by
        rw [hrow' i hi] at hj
        exact (cells_len (hf i hi).1).2 j v hj
      have hj : ∃ v, (row 0)[0]? = some v := ⟨_, List.getElem?_eq_getElem (by rw [hrow]; exact h0)⟩
      obtain ⟨v, hv⟩ := hj
      have h2 := h1 0 (by omega) 0 v hv
      rw [Nat.zero_mul] at h2
      change W.cell? ⟨b, o, sp⟩ = some v at h2
      unfold World.cell? at h2
      split at h2
      · rename_i c ty fr hb
        have hsp : sp = none := by
          cases sp with
          | none => rfl
          | some s => simp at h2
        subst hsp
        refine ⟨b, o, rfl, c, ty, fr, hb, fun i hi j v hj => ?_⟩
        have h3 := h1 i hi j v hj
        rw [add_none, add_none] at h3
        unfold World.cell? at h3
        rw [hb] at h3
        simpa [Nat.add_assoc] using h3
      · cases h2
    subst hab
    have hlt : b < W.heap.size := (Array.getElem?_eq_some_iff.1 hb).1
    refine ⟨(List.range len).map fun i => (f i).2, ⟨_, rfl, (List.range len).map row, ⟨?_, ?_, some ⟨b, o, none⟩, cap, ?_, fun _ => ⟨b, o, rfl, hlt, c, ty, fr, hb, fun j v hj => ?_⟩, by simp, by simpa using hlc, Nat.le_trans hcm (by decide)⟩, by simp, ?_⟩, ?_⟩
    · intro r hr
      obtain ⟨i, _, rfl⟩ := List.mem_map.1 hr
      exact hrow i
    · have : cap ≤ 2 ^ 63 - 1 := Nat.le_trans hcm (by decide)
      simp; omega
    · simp
    · have hjl : j < len * k := by
        have h1 := (List.getElem?_eq_some_iff.1 hj).1
        rw [flat_len (k := k) (by intro r hr; obtain ⟨i, _, rfl⟩ := List.mem_map.1 hr; exact hrow i)] at h1
        simpa using h1
      have h2 := flat_getR hrow h0 (List.range len) j (by simpa using hjl)
      rw [hj] at h2
      have hd : j / k < len := by rw [Nat.div_lt_iff_lt_mul h0]; exact hjl
      have hmod : j % k < k := Nat.mod_lt _ h0
      have hr : (List.range len)[j / k]! = j / k := by simp [hd]
      rw [hr] at h2
      have hv : (row (j / k))[j % k]? = some v := by
        rw [List.getElem?_eq_getElem (by rw [hrow]; exact hmod)]
        rw [getElem!_pos (row (j / k)) (j % k) (by rw [hrow]; exact hmod)] at h2
        exact h2.symm
      have := hc (j / k) hd (j % k) v hv
      rw [Nat.mul_comm, Nat.div_add_mod] at this
      exact this
    · intro i r x hr hx
      simp only [List.getElem?_map, Option.map_eq_some_iff] at hr hx
      obtain ⟨i1, h1, rfl⟩ := hr
      obtain ⟨i2, h2, rfl⟩ := hx
      rw [h1] at h2; cases h2
      have hi1 : i1 < len := List.mem_range.1 (List.mem_of_getElem? h1)
      rw [hrow' i1 hi1]
      exact (hf i1 hi1).2.1
    · have := sum_le (fun i => (f i).2) D (List.range len) fun i hi => (hf i (List.mem_range.1 hi)).2.2
      show ((((List.range len).map fun i => (f i).2).map Wt.wt).sum + 1) ≤ _
      simp only [Rows.uptoBulk]
      omega
theorem _root_.Go.Eng.Rws.to_sl {α : Type} {w : World} {X : XS} {k : Nat} {v : Value} {enc : α → List Value} {xs : List α} (h : Rws w X k v (fun _ _ l x => l = enc x) xs) : Sl w X k v (xs.map enc) := by
  obtain ⟨rows, h1, h2, h3⟩ := h
  have : rows = xs.map enc := by
    apply List.ext_getElem (by simpa using h2)
    intro i hi hj
    have hx : i < xs.length := by simpa using hj
    have := h3 i rows[i] xs[i] (List.getElem?_eq_getElem hi) (List.getElem?_eq_getElem hx)
    simpa using this
  rw [← this]; exact h1
def offs (P : Program) : List Field → Nat → Bool
  | [], _ => true
  | f :: l, o => f.offset == o && offs P l (o + P.cellsOf f.type)
def structOk (P : Program) (t : TypeId) (tys : List TypeId) : Bool := match P.underlying t with
  | some (.struct fs) => fs.toList.map (·.type) == tys && offs P fs.toList 0 && P.cellsOf t == (tys.map P.cellsOf).sum
  | _ => false
def Flds {H : Type} (enc : TypeId × Value → H) (W : World) (n : Nat) : List TypeId → List Value → List (DataW H) → Prop
  | [], cs, ds => cs = [] ∧ ds = []
  | t :: ts, cs, ds => ∃ c1 c2 d ps ds', cs = c1 ++ c2 ∧ ds = d :: ds' ∧ DataW.trod enc Tryz.prog W 0 (fun _ => true) true n t c1 = some (d, ps) ∧ Flds enc W n ts c2 ds'
theorem flds_of {H : Type} {enc : TypeId × Value → H} {W : World} {n : Nat} {cs : List Value} : ∀ (l : List Field) (xs : List (DataW H × List MemPlace)) (o : Nat), offs Tryz.prog l o = true → cs.length = o + ((l.map (·.type)).map Tryz.prog.cellsOf).sum →
    xs.length = l.length → (∀ (i : Nat) (f : Field), l[i]? = some f → DataW.trod enc Tryz.prog W 0 (fun _ => true) true n f.type ((cs.drop f.offset).take (Tryz.prog.cellsOf f.type)) = xs[i]?) → Flds enc W n (l.map (·.type)) (cs.drop o) (xs.map (·.1))
  | [], [], o, _, hl, _, _ => ⟨List.drop_of_length_le (by simp at hl; omega), rfl⟩
  | [], x :: xs, o, _, _, hx, _ => by simp at hx
  | f :: l, [], o, _, _, hx, _ => by simp at hx
  | f :: l, x :: xs, o, ho, hl, hx, h => by
    simp only [offs, Bool.and_eq_true, beq_iff_eq] at ho
    obtain ⟨ho1, ho2⟩ := ho
    have h0 := h 0 f rfl
    simp only [List.getElem?_cons_zero] at h0
    refine ⟨(cs.drop o).take (Tryz.prog.cellsOf f.type), cs.drop (o + Tryz.prog.cellsOf f.type), x.1, x.2, xs.map (·.1), ?_, rfl, ?_, ?_⟩
    · rw [← List.drop_drop, List.take_append_drop]
    · rw [← ho1]; exact h0
    · refine flds_of l xs _ ho2 ?_ (by simpa using hx) fun i g hg => ?_
      · simp only [List.map_cons, List.sum_cons] at hl; omega
      · have := h (i + 1) g (by simpa using hg)
        simpa using this
theorem open_struct {t : TypeId} (tys : List TypeId) (hok : structOk Tryz.prog t tys = true) {H : Type} {enc : TypeId × Value → H} {W : World} {fuel : Nat} {cs : List Value} {x : DataW H × List MemPlace}
    (h : DataW.trod enc Tryz.prog W 0 (fun _ => true) true fuel t cs = some x) : ∃ n ds, x.1 = .agg ds ∧ Flds enc W n tys cs ds := by
  unfold structOk at hok
  split at hok
  · rename_i fs hfs
    simp only [Bool.and_eq_true, beq_iff_eq] at hok
    obtain ⟨⟨rfl, h2⟩, h3⟩ := hok
    obtain ⟨xs, n, _, rfl, hl, hx, hf⟩ := DataW.trod_struct hfs h
    refine ⟨n, _, rfl, ?_⟩
    have := flds_of (cs := cs) (enc := enc) (W := W) (n := n) fs.toList xs 0 h2 (by rw [hl, h3]; simp) (by simpa using hx) fun i f hi => hf i f (by simpa using hi)
    simpa using this
  · cases hok
theorem fld_cons {α : Type} [Wt α] {t : TypeId} {ts : List TypeId} {rd : World → XS → List Value → α → Prop} (hr : RdT t rd) {H : Type} {enc : TypeId × Value → H} {W : World} {n : Nat} {cs : List Value} {ds : List (DataW H)} (h : Flds enc W n (t :: ts) cs ds) :
    ∃ c1 c2 d ds' a, cs = c1 ++ c2 ∧ ds = d :: ds' ∧ rd W (old W) c1 a ∧ Wt.wt a ≤ Rows.uptoBulk d ∧ Flds enc W n ts c2 ds' := by
  obtain ⟨c1, c2, d, ps, ds', rfl, rfl, h1, h2⟩ := h
  obtain ⟨a, h3, h4⟩ := hr H enc W n c1 _ h1
  exact ⟨c1, c2, d, ds', a, rfl, rfl, h3, h4, h2⟩
instance : Wt Stamp := ⟨fun x => 4, fun _ => by omega⟩
instance : Wt Txn := ⟨fun x => 4, fun _ => by omega⟩
abbrev rdStamp : World → XS → List Value → Stamp → Prop := fun _ _ cs x => cs = x.l
abbrev rdTxn : World → XS → List Value → Txn → Prop := fun _ _ cs x => cs = x.l
theorem rt_int : RdT 3 rdI := rd_int (by kernel_rfl)
theorem rt_float : RdT 40 rdFl := rd_float (by kernel_rfl)
theorem rt_bool : RdT 4 rdB := rd_bool (by kernel_rfl)
theorem rt_str : RdT 9 rdS := rd_str (by kernel_rfl)
theorem rt_Stamp : RdT 35 rdStamp := fun H enc W fuel cs x h => by
  obtain ⟨n, ds, hx, hf⟩ := open_struct [3, 3, 3] (by kernel_rfl) h
  obtain ⟨_, _, _, _, a1, rfl, rfl, rfl, w1, hf⟩ := fld_cons rt_int hf
  obtain ⟨_, _, _, _, a2, rfl, rfl, rfl, w2, hf⟩ := fld_cons rt_int hf
  obtain ⟨_, _, _, _, a3, rfl, rfl, rfl, w3, rfl, rfl⟩ := fld_cons rt_int hf
  refine ⟨⟨a1, a2, a3⟩, rfl, ?_⟩
  rw [hx]; simp only [Rows.uptoBulk, Rows.uptoBulkAll, Wt.wt] at *; omega
theorem rt_Txn : RdT 33 rdTxn := fun H enc W fuel cs x h => by
  obtain ⟨n, ds, hx, hf⟩ := open_struct [3, 3, 3] (by kernel_rfl) h
  obtain ⟨_, _, _, _, a1, rfl, rfl, rfl, w1, hf⟩ := fld_cons rt_int hf
  obtain ⟨_, _, _, _, a2, rfl, rfl, rfl, w2, hf⟩ := fld_cons rt_int hf
  obtain ⟨_, _, _, _, a3, rfl, rfl, rfl, w3, rfl, rfl⟩ := fld_cons rt_int hf
  refine ⟨⟨a1, a2, a3⟩, rfl, ?_⟩
  rw [hx]; simp only [Rows.uptoBulk, Rows.uptoBulkAll, Wt.wt] at *; omega
instance : Wt Val := ⟨fun x => Wt.wt x.kind + Wt.wt x.num + Wt.wt x.text + 1, fun _ => by omega⟩
theorem rt_Val : RdT 51 (fun _ _ cs (x : Val) => cs = x.l) := fun H enc W fuel cs x h => by
  obtain ⟨n, ds, hx, hf⟩ := open_struct [3, 40, 9] (by kernel_rfl) h
  obtain ⟨_, _, _, _, a0, rfl, rfl, rfl, w0, hf⟩ := fld_cons rt_int hf
  obtain ⟨_, _, _, _, a1, rfl, rfl, rfl, w1, hf⟩ := fld_cons rt_float hf
  obtain ⟨_, _, _, _, a2, rfl, rfl, rfl, w2, rfl, rfl⟩ := fld_cons rt_str hf
  refine ⟨⟨a0, a1, a2⟩, rfl, ?_⟩
  rw [hx]; simp only [Rows.uptoBulk, Rows.uptoBulkAll, Wt.wt] at *; omega
instance : Wt KV := ⟨fun x => Wt.wt x.key + Wt.wt x.val + 1, fun _ => by omega⟩
theorem rt_KV : RdT 53 (fun _ _ cs (x : KV) => cs = x.l) := fun H enc W fuel cs x h => by
  obtain ⟨n, ds, hx, hf⟩ := open_struct [9, 51] (by kernel_rfl) h
  obtain ⟨_, _, _, _, a0, rfl, rfl, rfl, w0, hf⟩ := fld_cons rt_str hf
  obtain ⟨_, _, _, _, a1, rfl, rfl, rfl, w1, rfl, rfl⟩ := fld_cons rt_Val hf
  refine ⟨⟨a0, a1⟩, rfl, ?_⟩
  rw [hx]; simp only [Rows.uptoBulk, Rows.uptoBulkAll, Wt.wt] at *; omega
theorem rt_LKV : RdT 23 (rdL 4 (fun _ _ cs (x : KV) => cs = x.l)) := rd_slice (by kernel_rfl) (by kernel_rfl) (by decide) rt_KV
theorem rt_KV2 : RdT 74 (fun _ _ cs (x : KV) => cs = x.l) := fun H enc W fuel cs x h => by
  obtain ⟨n, ds, hx, hf⟩ := open_struct [9, 51] (by kernel_rfl) h
  obtain ⟨_, _, _, _, a0, rfl, rfl, rfl, w0, hf⟩ := fld_cons rt_str hf
  obtain ⟨_, _, _, _, a1, rfl, rfl, rfl, w1, rfl, rfl⟩ := fld_cons rt_Val hf
  refine ⟨⟨a0, a1⟩, rfl, ?_⟩
  rw [hx]; simp only [Rows.uptoBulk, Rows.uptoBulkAll, Wt.wt] at *; omega
theorem rt_LKV2 : RdT 54 (rdL 4 (fun _ _ cs (x : KV) => cs = x.l)) := rd_slice (by kernel_rfl) (by kernel_rfl) (by decide) rt_KV2
instance : Wt Ver := ⟨fun x => Wt.wt x.stamp + Wt.wt x.val + 1, fun _ => by omega⟩
theorem rt_Ver : RdT 337 (fun _ _ cs (x : Ver) => cs = x.l) := fun H enc W fuel cs x h => by
  obtain ⟨n, ds, hx, hf⟩ := open_struct [35, 51] (by kernel_rfl) h
  obtain ⟨_, _, _, _, a0, rfl, rfl, rfl, w0, hf⟩ := fld_cons rt_Stamp hf
  obtain ⟨_, _, _, _, a1, rfl, rfl, rfl, w1, rfl, rfl⟩ := fld_cons rt_Val hf
  refine ⟨⟨a0, a1⟩, rfl, ?_⟩
  rw [hx]; simp only [Rows.uptoBulk, Rows.uptoBulkAll, Wt.wt] at *; omega
theorem rt_Ls : RdT 36 (rdL 1 rdS) := rd_slice (by kernel_rfl) (by kernel_rfl) (by decide) rt_str
theorem rt_LVer : RdT 286 (rdL 6 (fun _ _ cs (x : Ver) => cs = x.l)) := rd_slice (by kernel_rfl) (by kernel_rfl) (by decide) rt_Ver
theorem rt_Li : RdT 22 (rdL 1 rdI) := rd_slice (by kernel_rfl) (by kernel_rfl) (by decide) rt_int
instance : Wt Hist := ⟨fun x => Wt.wt x.key + Wt.wt x.vers + 1, fun _ => by omega⟩
theorem rt_Hist : RdT 288 Hist.rd := fun H enc W fuel cs x h => by
  obtain ⟨n, ds, hx, hf⟩ := open_struct [9, 286] (by kernel_rfl) h
  obtain ⟨_, _, _, _, a0, rfl, rfl, rfl, w0, hf⟩ := fld_cons rt_str hf
  obtain ⟨_, _, _, _, a1, rfl, rfl, ⟨v1, rfl, r1⟩, w1, rfl, rfl⟩ := fld_cons rt_LVer hf
  refine ⟨⟨a0, a1⟩, ⟨v1, rfl, r1.to_sl⟩, ?_⟩
  rw [hx]; simp only [Rows.uptoBulk, Rows.uptoBulkAll, Wt.wt] at *; omega
theorem rt_LHist : RdT 43 (rdL 2 Hist.rd) := rd_slice (by kernel_rfl) (by kernel_rfl) (by decide) rt_Hist
instance : Wt Pend := ⟨fun x => Wt.wt x.txn + Wt.wt x.stamp + Wt.wt x.reads + Wt.wt x.writes + 1, fun _ => by omega⟩
theorem rt_Pend : RdT 229 Pend.rd := fun H enc W fuel cs x h => by
  obtain ⟨n, ds, hx, hf⟩ := open_struct [33, 35, 36, 23] (by kernel_rfl) h
  obtain ⟨_, _, _, _, a0, rfl, rfl, rfl, w0, hf⟩ := fld_cons rt_Txn hf
  obtain ⟨_, _, _, _, a1, rfl, rfl, rfl, w1, hf⟩ := fld_cons rt_Stamp hf
  obtain ⟨_, _, _, _, a2, rfl, rfl, ⟨v2, rfl, r2⟩, w2, hf⟩ := fld_cons rt_Ls hf
  obtain ⟨_, _, _, _, a3, rfl, rfl, ⟨v3, rfl, r3⟩, w3, rfl, rfl⟩ := fld_cons rt_LKV hf
  refine ⟨⟨a0, a1, a2, a3⟩, ⟨v2, v3, rfl, r2.to_sl, r3.to_sl⟩, ?_⟩
  rw [hx]; simp only [Rows.uptoBulk, Rows.uptoBulkAll, Wt.wt] at *; omega
theorem rt_LPend : RdT 44 (rdL 8 Pend.rd) := rd_slice (by kernel_rfl) (by kernel_rfl) (by decide) rt_Pend
instance : Wt Rng := ⟨fun x => Wt.wt x.id + Wt.wt x.epoch + Wt.wt x.lo + Wt.wt x.hi + 1, fun _ => by omega⟩
theorem rt_Rng : RdT 42 (fun _ _ cs (x : Rng) => cs = x.l) := fun H enc W fuel cs x h => by
  obtain ⟨n, ds, hx, hf⟩ := open_struct [3, 3, 40, 40] (by kernel_rfl) h
  obtain ⟨_, _, _, _, a0, rfl, rfl, rfl, w0, hf⟩ := fld_cons rt_int hf
  obtain ⟨_, _, _, _, a1, rfl, rfl, rfl, w1, hf⟩ := fld_cons rt_int hf
  obtain ⟨_, _, _, _, a2, rfl, rfl, rfl, w2, hf⟩ := fld_cons rt_float hf
  obtain ⟨_, _, _, _, a3, rfl, rfl, rfl, w3, rfl, rfl⟩ := fld_cons rt_float hf
  refine ⟨⟨a0, a1, a2, a3⟩, rfl, ?_⟩
  rw [hx]; simp only [Rows.uptoBulk, Rows.uptoBulkAll, Wt.wt] at *; omega
instance : Wt State := ⟨fun x => Wt.wt x.range + Wt.wt x.floor + Wt.wt x.closed + Wt.wt x.hists + Wt.wt x.pend + 1, fun _ => by omega⟩
theorem rt_State : RdT 46 State.rd := fun H enc W fuel cs x h => by
  obtain ⟨n, ds, hx, hf⟩ := open_struct [42, 35, 35, 43, 44] (by kernel_rfl) h
  obtain ⟨_, _, _, _, a0, rfl, rfl, rfl, w0, hf⟩ := fld_cons rt_Rng hf
  obtain ⟨_, _, _, _, a1, rfl, rfl, rfl, w1, hf⟩ := fld_cons rt_Stamp hf
  obtain ⟨_, _, _, _, a2, rfl, rfl, rfl, w2, hf⟩ := fld_cons rt_Stamp hf
  obtain ⟨_, _, _, _, a3, rfl, rfl, ⟨v3, rfl, r3⟩, w3, hf⟩ := fld_cons rt_LHist hf
  obtain ⟨_, _, _, _, a4, rfl, rfl, ⟨v4, rfl, r4⟩, w4, rfl, rfl⟩ := fld_cons rt_LPend hf
  refine ⟨⟨a0, a1, a2, a3, a4⟩, ⟨v3, v4, rfl, r3, r4⟩, ?_⟩
  rw [hx]; simp only [Rows.uptoBulk, Rows.uptoBulkAll, Wt.wt] at *; omega
instance : Wt Rec := ⟨fun x => Wt.wt x.kind + Wt.wt x.txn + Wt.wt x.stamp + Wt.wt x.prev + Wt.wt x.commit + Wt.wt x.n + Wt.wt x.point + Wt.wt x.reads + Wt.wt x.writes + Wt.wt x.parts + Wt.wt x.pairs + Wt.wt x.state + 1, fun _ => by omega⟩
theorem rt_Rec : RdT 117 Rec.rd := fun H enc W fuel cs x h => by
  obtain ⟨n, ds, hx, hf⟩ := open_struct [3, 33, 35, 35, 4, 3, 40, 36, 23, 22, 54, 46] (by kernel_rfl) h
  obtain ⟨_, _, _, _, a0, rfl, rfl, rfl, w0, hf⟩ := fld_cons rt_int hf
  obtain ⟨_, _, _, _, a1, rfl, rfl, rfl, w1, hf⟩ := fld_cons rt_Txn hf
  obtain ⟨_, _, _, _, a2, rfl, rfl, rfl, w2, hf⟩ := fld_cons rt_Stamp hf
  obtain ⟨_, _, _, _, a3, rfl, rfl, rfl, w3, hf⟩ := fld_cons rt_Stamp hf
  obtain ⟨_, _, _, _, a4, rfl, rfl, rfl, w4, hf⟩ := fld_cons rt_bool hf
  obtain ⟨_, _, _, _, a5, rfl, rfl, rfl, w5, hf⟩ := fld_cons rt_int hf
  obtain ⟨_, _, _, _, a6, rfl, rfl, rfl, w6, hf⟩ := fld_cons rt_float hf
  obtain ⟨_, _, _, _, a7, rfl, rfl, ⟨v7, rfl, r7⟩, w7, hf⟩ := fld_cons rt_Ls hf
  obtain ⟨_, _, _, _, a8, rfl, rfl, ⟨v8, rfl, r8⟩, w8, hf⟩ := fld_cons rt_LKV hf
  obtain ⟨_, _, _, _, a9, rfl, rfl, ⟨v9, rfl, r9⟩, w9, hf⟩ := fld_cons rt_Li hf
  obtain ⟨_, _, _, _, a10, rfl, rfl, ⟨v10, rfl, r10⟩, w10, hf⟩ := fld_cons rt_LKV2 hf
  obtain ⟨_, _, _, _, a11, rfl, rfl, ⟨vh, vp, rfl, r11h, r11p⟩, w11, rfl, rfl⟩ := fld_cons rt_State hf
  refine ⟨⟨a0, a1, a2, a3, a4, a5, a6, a7, a8, a9, a10, a11⟩, ⟨v7, v8, v9, v10, vh, vp, rfl, r7.to_sl, r8.to_sl, r9.to_sl, r10.to_sl, r11h, r11p⟩, ?_⟩
  rw [hx]; simp only [Rows.uptoBulk, Rows.uptoBulkAll, Wt.wt] at *; omega
end Go.Proofs.YtpdkoaklobnegaaGreat
