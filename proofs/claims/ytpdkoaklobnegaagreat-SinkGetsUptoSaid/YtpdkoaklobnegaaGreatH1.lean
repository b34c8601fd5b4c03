/-
  Part 1 of the proof: what the last text leans on.
-/
import Derived.Orders
import Derived.Below
import Derived.Laws.Sem
import Derived.Laws.CopyRow
import Derived.Laws.Entries
import Derived.Laws.Cells
import GoSem.Dispatch
import Derived.Laws.Rows
import Derived.Laws.Pointers
import Derived.Deep.MidRow
import Derived.Laws.StructEq
import Derived.Maps.AppendAt
import Derived.Laws.OwnMore
import Derived.Great.BuildSlice
import Derived.Maps.RangeRun
import Derived.Laws.FloatArith
namespace Go.Eng
theorem qF {p : Prop} (h : p := by first | assumption | exact RowIs.cells (by assumption)) : p := h
theorem qO {p : Prop} (h : p := by first | assumption | exact Own.sl (by assumption)) : p := h
theorem qM {p : Prop} (h : p := by first | exact mv0 | exact mv1 (by assumption) | exact mv2 (by assumption) (by assumption)) : p := h
theorem qN {p : Prop} (h : p := by simp only [Value.cells, nq1, nq2, nq3, nq4, nq5, nq6, setL, nq7, nq8, nq9, nq0, Nat.reduceAdd, Nat.zero_add]; try rfl) : p := h
theorem qE {p : Prop} (h : p := by repeat' first | with_reducible apply all_one_cons | with_reducible exact all_one_nil | assumption | rfl | exact Sl.one (by assumption) | exact Rws.one (by assumption) | exact Sl.one (Own.sl (by assumption))) : p := h
theorem qC {p : Prop} (h : p := by first | rfl | assumption | exact Sl.one (by assumption) | exact Rws.one (by assumption) | exact Sl.one (Own.sl (by assumption))) : p := h
theorem qR {p : Prop} (h : p := by first | assumption | exact List.getElem?_eq_getElem (by omega)) : p := h
theorem qA {p : Prop} (h : p := by first | assumption | exact Sl.mv (by assumption) qM | exact Pends.mv (by assumption) qM | exact Hists.mv (by assumption) qM | exact Rec.at.mv (by assumption) qM | exact Own.sl (by assumption) | exact Cells.mv (by assumption) qM | exact Cells.mv (RowIs.cells (by assumption)) qM | omega) : p := h
end Go.Eng
namespace Go.Eng
abbrev Env := Nat → Value
abbrev XS := Nat → Prop
def upd (e : Env) (d : Nat) (v : Value) : Env := fun s => match s == d with
  | true => v
  | false => e s
def updO (e : Env) (d : Option Nat) (v : Value) : Env := match d with
  | some d => upd e d v
  | none => e
structure Fr (X : XS) (w w' : World) : Prop where
  os : w'.os = w.os
  tape : w'.tape = w.tape
  output : w'.output = w.output
  size : w.heap.size ≤ w'.heap.size
  block : ∀ k, k < w.heap.size → ¬ X k → w'.heap[k]? = w.heap[k]?
def nX : XS := fun _ => False
def Ext (w w' : World) : Prop := Fr nX w w'
theorem Fr.refl (X : XS) (w : World) : Fr X w w := ⟨rfl, rfl, rfl, Nat.le_refl _, fun _ _ _ => rfl⟩
theorem Fr.trans {X : XS} {a b c : World} (h : Fr X a b) (k : Fr X b c) : Fr X a c :=
  ⟨k.os.trans h.os, k.tape.trans h.tape, k.output.trans h.output, Nat.le_trans h.size k.size,
    fun i hi hx => (k.block i (Nat.lt_of_lt_of_le hi h.size) hx).trans (h.block i hi hx)⟩
theorem Fr.mono {X Y : XS} {a b : World} (h : Fr X a b) (hs : ∀ k, X k → Y k) : Fr Y a b :=
  ⟨h.os, h.tape, h.output, h.size, fun i hi hy => h.block i hi fun hx => hy (hs i hx)⟩
theorem Ext.refl (w : World) : Ext w w := Fr.refl _ _
theorem Ext.trans {a b c : World} (h : Ext a b) (k : Ext b c) : Ext a c := Fr.trans h k
theorem Ext.fr {a b : World} (h : Ext a b) (X : XS) : Fr X a b := Fr.mono h (fun _ hf => hf.elim)
theorem Ext.size {a b : World} (h : Ext a b) : a.heap.size ≤ b.heap.size := Fr.size h
theorem Ext.block {a b : World} (h : Ext a b) {k : Nat} (hk : k < a.heap.size) : b.heap[k]? = a.heap[k]? := Fr.block h k hk (fun hf => hf)
theorem Ext.of_below {a b : World} (h : RowKit.Below a.heap.size a b) : Ext a b := ⟨h.os, h.tape, h.output, h.size, fun k hk _ => h.block k hk⟩
theorem Ext.below {a b : World} (h : Ext a b) : RowKit.Below a.heap.size a b := ⟨h.os, h.tape, h.output, Fr.size h, fun _ hk => h.block hk⟩
theorem Ext.alloc (w : World) (o : Obj) : Ext w (w.alloc o) := Ext.of_below ((RowKit.Below.refl _ _).alloc (Nat.le_refl _) o)
theorem Ext.drew (w : World) : Ext w { w with drawn := w.drawn + 1 } := ⟨rfl, rfl, rfl, Nat.le_refl _, fun _ _ _ => rfl⟩
structure Kp (X : XS) (w w' : World) : Prop where
  os : w'.os = w.os
  tape : w'.tape = w.tape
  output : w'.output = w.output
  size : w.heap.size ≤ w'.heap.size
  block : ∀ k, X k → w'.heap[k]? = w.heap[k]?
theorem Kp.refl (X : XS) (w : World) : Kp X w w := ⟨rfl, rfl, rfl, Nat.le_refl _, fun _ _ => rfl⟩
theorem Kp.trans {X : XS} {a b c : World} (h : Kp X a b) (k : Kp X b c) : Kp X a c :=
  ⟨k.os.trans h.os, k.tape.trans h.tape, k.output.trans h.output, Nat.le_trans h.size k.size, fun i hx => (k.block i hx).trans (h.block i hx)⟩
theorem Kp.less {X Y : XS} {a b : World} (h : Kp X a b) (hs : ∀ k, Y k → X k) : Kp Y a b := ⟨h.os, h.tape, h.output, h.size, fun i hy => h.block i (hs i hy)⟩
theorem Fr.kp {X Y : XS} {a b : World} (h : Fr X a b) (hy : ∀ k, Y k → k < a.heap.size ∧ ¬ X k) : Kp Y a b :=
  ⟨h.os, h.tape, h.output, h.size, fun i hi => h.block i (hy i hi).1 (hy i hi).2⟩
theorem Ext.kp {X : XS} {a b : World} (h : Ext a b) (hx : ∀ k, X k → k < a.heap.size) : Kp X a b := Fr.kp h fun k hk => ⟨hx k hk, fun hf => hf⟩
def old (w : World) : XS := fun k => k < w.heap.size
theorem Kp.ext {a b : World} (h : Kp (old a) a b) : Ext a b := ⟨h.os, h.tape, h.output, h.size, fun k hk _ => h.block k hk⟩
theorem Ext.old {a b : World} (h : Ext a b) : Kp (old a) a b := h.kp fun _ hk => hk
inductive Ex where
  | t (n : Nat)
  | c (v : Value)
  | s (b off n : Nat)
  | k (b off : Nat)
def subOf (v : Value) (off n : Nat) : Value := .agg ((v.cells.toList.drop off).take n).toArray
def cellOf (v : Value) (i : Nat) : Value := v.cells.toList.getD i undef
def Ex.ev (env : Env) : Ex → Value
  | .t n => env n
  | .c v => v
  | .s b off n => subOf (env b) off n
  | .k b off => cellOf (env b) off
def Ex.over : Ex → Nat → Bool
  | .t n, d => n == d
  | .c _, _ => false
  | .s b _ _, d => b == d
  | .k b _, d => b == d
def look {α : Type} : List (Nat × α) → Nat → Option α
  | [], _ => none
  | (s, e) :: r, t => if s = t then some e else look r t
def rho (env : Env) (ss : List (Nat × Ex)) : Operand → Value
  | .tmp t => match look ss t with
    | some e => e.ev env
    | none => env t
  | .const v => v
  | .global g => .pointer (some ⟨g, 0, none⟩)
  | .func f => .func (.func f) #[] #[]
def mkOp (op : Op) (ty : TypeId) : Oper := ⟨none, op, ty, "", #[], none⟩
def vS (s : Sem Value) : Sem Next := do pure (.value (← s))
def callV (f : Value) (args : Array Value) : Sem Next := do let d ← Deferred.ofValue f args; invoke d.target d.args
def mapV (ρ : Operand → Value) (a : Array Operand) : Array Value := (a.toList.map ρ).toArray
def mapP (ρ : Operand → Value) (a : Array (Nat × Operand)) : Array (Nat × Value) := (a.toList.map fun p => (p.1, ρ p.2)).toArray
def opS (ρ : Operand → Value) (op : Op) (ty : TypeId) : Sem Next := match op with
  | .call ⟨.value (.func f), args, _⟩ => callFunc f (mapV ρ args)
  | .call ⟨.value (.tmp t), args, _⟩ => callV (ρ (.tmp t)) (mapV ρ args)
  | .call ⟨.builtin .len, args, ts⟩ => vS (Builtin.len_ ts ty (mapV ρ args))
  | .call ⟨.builtin .cap, args, ts⟩ => vS (Builtin.cap_ ts ty (mapV ρ args))
  | .call ⟨.builtin .min, args, ts⟩ => vS (Builtin.min_ ts ty (mapV ρ args))
  | .call ⟨.builtin .max, args, ts⟩ => vS (Builtin.max_ ts ty (mapV ρ args))
  | .call ⟨.builtin .append, args, ts⟩ => vS (Builtin.append_ ts ty (mapV ρ args))
  | .call ⟨.builtin .copy, args, ts⟩ => vS (Builtin.copy_ ts ty (mapV ρ args))
  | .call ⟨.builtin .delete, args, ts⟩ => vS (Builtin.delete_ ts ty (mapV ρ args))
  | .call ⟨.builtin .clear, args, ts⟩ => vS (Builtin.clear_ ts ty (mapV ρ args))
  | .call ⟨.builtin .panic, args, _⟩ => vS (Instr.panic ((mapV ρ args).toList.getD 0 .nilIface))
  | .build t ps => vS (Instr.build t (mapP ρ ps))
  | .buildSlice t n ps => vS (Instr.buildSlice t n (mapP ρ ps))
  | .makeFunc fn a b => vS (Instr.makeFunc fn (mapV ρ a) (mapV ρ b))
  | op => execOp ρ (mkOp op ty)
theorem mapV_eq (ρ : Operand → Value) (a : Array Operand) : mapV ρ a = a.map ρ := by
  unfold mapV; rw [← Array.toList_map]
theorem mapP_eq (ρ : Operand → Value) (a : Array (Nat × Operand)) : mapP ρ a = a.map fun p => (p.1, ρ p.2) := by
  unfold mapP; rw [← Array.toList_map]
theorem opS_eq (ρ : Operand → Value) (hρ : ∀ f, ρ (.func f) = .func (.func f) #[] #[]) (op : Op) (ty : TypeId) : opS ρ op ty = execOp ρ (mkOp op ty) := by
  unfold opS
  split <;> first
    | rfl
    | (simp [execOp, mkOp, resolve, invoke, Deferred.ofValue, mapV_eq, mapP_eq, vS, builtin, callV, hρ]; done)
def setL (l : List Value) (off : Nat) (vs : List Value) : List Value := l.take off ++ vs ++ l.drop (off + vs.length)
def Rd (P : Program) (X : XS) (w : World) (s : Sem Next) (v : Value) : Prop := ∀ wa, Kp X w wa → s.run P wa = .ok (.value v) wa
def gWant (v : Value) (want : Bool) : Bool := match v with
  | .bool b => b == want
  | _ => false
def isA : Value → Bool
  | .agg _ => true
  | _ => false
def one (v : Value) : Bool := match v with
  | .agg _ | .tuple _ => false
  | _ => true
inductive TI where
  | need (b : Nat)
  | set (d : Nat) (e : Ex)
  | box (b n : Nat) (e : Ex)
  | put (b off n : Nat) (e : Ex)
  | box1 (b : Nat) (e : Ex)
  | put1 (b off : Nat) (e : Ex)
  | fill (b n : Nat) (e : Ex)
  | rd (d : Nat) (op : Op) (ty : TypeId) (ss : List (Nat × Ex))
  | eff (d : Option Nat) (op : Op) (ty : TypeId) (ss : List (Nat × Ex)) (m : Bool)
  | gset (g : Nat) (want : Bool) (d : Nat) (e : Ex)
  | grd (g : Nat) (want : Bool) (d : Nat) (op : Op) (ty : TypeId) (ss : List (Nat × Ex))
  | geff (g : Nat) (want : Bool) (d : Option Nat) (op : Op) (ty : TypeId) (ss : List (Nat × Ex)) (m : Bool)
inductive T where
  | reg (l : List TI)
  | seq (a b : T)
  | ite (e : Ex) (a b : T)
  | blk (id : Nat) (a : T)
  | loop (M C : List Nat) (a : T)
  | exit (id : Nat)
  | ret
  | skip
def grow (X : XS) (w w' : World) : XS := fun k => X k ∨ (w.heap.size ≤ k ∧ k < w'.heap.size)
def Step (m : Bool) (X : XS) (w w' : World) : Prop := if m then Fr X w w' else Ext w w'
theorem Step.fr {m : Bool} {X : XS} {w w' : World} (h : Step m X w w') : Fr X w w' := by
  unfold Step at h; split at h
  · exact h
  · exact h.fr X
theorem Step.of_ext {m : Bool} {X : XS} {w w' : World} (h : Ext w w') : Step m X w w' := by
  unfold Step; split
  · exact h.fr X
  · exact h
def effW (P : Program) (m : Bool) (X : XS) (w : World) (next : Value → World → XS → Prop) (pan : List PanicEntry → World → XS → Prop) : Result Next → Prop
  | .ok (.value v) w' => Step m X w w' ∧ next v w' (grow X w w')
  | .ok .skip w' => Step m X w w' ∧ next undef w' (grow X w w')
  | .ok (.enter f args) w' => w' = w ∧ Calls P f args w fun
      | .returned v, w'' => Step m X w w'' ∧ next v w'' (grow X w w'')
      | .panicked ch, w'' => Step m X w w'' ∧ pan ch w'' (grow X w w'')
      | .outgrown, _ => False
  | .halt (.panic v) w' => Step m X w w' ∧ pan [{ v, recovered := false }] w' (grow X w w')
  | _ => False
def chk (b : Bool) (N : Prop) : Prop := match b with
  | true => N
  | false => False
theorem chk_iff {b : Bool} {N : Prop} : chk b N ↔ b = true ∧ N := by cases b <;> simp [chk]
def condW (v : Value) (A B : Prop) : Prop := match v with
  | .bool t => (t = true → A) ∧ (t = false → B)
  | _ => False
def denI (P : Program) (pan : List PanicEntry → Env → World → XS → Prop) (next : Env → World → XS → Prop) (env : Env) (w : World) (X : XS) : TI → Prop
  | .need b => chk (isA (env b)) (next env w X)
  | .set d e => next (upd env d (e.ev env)) w X
  | .box b n e => chk ((e.ev env).cells.toList.length == n) (next (upd env b (.agg (e.ev env).cells)) w X)
  | .put b off n e => chk ((e.ev env).cells.toList.length == n) (chk ((e.ev env).cells.toList.all one)
      (next (upd env b (.agg (setL (env b).cells.toList off (e.ev env).cells.toList).toArray)) w X))
  | .box1 b e => chk (one (e.ev env)) (next (upd env b (.agg #[e.ev env])) w X)
  | .put1 b off e => chk (one (e.ev env)) (next (upd env b (.agg (setL (env b).cells.toList off [e.ev env]).toArray)) w X)
  | .fill b n e => chk ((e.ev env).cells.toList.length == n) (chk ((e.ev env).cells.toList.all one) (next (upd env b (.agg (e.ev env).cells)) w X))
  | .rd d op ty ss => ∃ v, Rd P X w (opS (rho env ss) op ty) v ∧ next (upd env d v) w X
  | .eff d op ty ss m => ∀ wa, Kp X w wa →
      effW P m X wa (fun v w' X' => next (updO env d v) w' X') (fun ch w' X' => pan ch env w' X') ((opS (rho env ss) op ty).run P wa)
  | .gset g want d e => next (upd env d (if gWant (env g) want then e.ev env else undef)) w X
  | .grd g want d op ty ss => ∃ v, (gWant (env g) want = true → Rd P X w (opS (rho env ss) op ty) v) ∧ (gWant (env g) want = false → v = undef) ∧
      next (upd env d v) w X
  | .geff g want d op ty ss m =>
      (gWant (env g) want = true → ∀ wa, Kp X w wa →
        effW P m X wa (fun v w' X' => next (updO env d v) w' X') (fun ch w' X' => pan ch env w' X') ((opS (rho env ss) op ty).run P wa)) ∧
      (gWant (env g) want = false → next (updO env d undef) w X)
def denL (P : Program) (pan : List PanicEntry → Env → World → XS → Prop) (next : Env → World → XS → Prop) : List TI → Env → World → XS → Prop
  | [], env, w, X => next env w X
  | i :: l, env, w, X => denI P pan (denL P pan next l) env w X i
abbrev Post := Exit → Env → World → XS → Prop
def Post.thn (next : Env → World → XS → Prop) (K : Post) : Post
  | .normal, e, w, X => next e w X
  | ex, e, w, X => K ex e w X
def Post.blk (id : Nat) (K : Post) : Post
  | .exit i, e, w, X => if i = id then K .normal e w X else K (.exit i) e w X
  | ex, e, w, X => K ex e w X
def inL (M : List Nat) (s : Nat) : Bool := match M with
  | [] => false
  | x :: r => x == s || inL r s
theorem inL_iff {s : Nat} : ∀ {M : List Nat}, inL M s = true ↔ s ∈ M
  | [] => by simp [inL]
  | x :: r => by
    simp only [inL, Bool.or_eq_true, beq_iff_eq, inL_iff (M := r), List.mem_cons]
    exact ⟨fun h => h.imp Eq.symm id, fun h => h.imp Eq.symm id⟩
def merge (M : List Nat) (e env : Env) : Env := fun s => match inL M s with
  | true => e s
  | false => env s
def den (P : Program) : T → Post → Env → World → XS → Prop
  | .reg l, K, env, w, X => denL P (fun ch => K (.panic ch)) (fun e w X => K .normal e w X) l env w X
  | .seq a b, K, env, w, X => den P a (Post.thn (fun e w X => den P b K e w X) K) env w X
  | .ite e a b, K, env, w, X => condW (e.ev env) (den P a K env w X) (den P b K env w X)
  | .blk id a, K, env, w, X => den P a (Post.blk id K) env w X
  | .loop M C a, K, env, w, X => ∃ J : Nat → List Value → World → XS → Prop, (∃ n, J n (C.map env) w X) ∧
      ∀ n (e : Env) w' X', (∀ k, X k → X' k) → J n (C.map e) w' X' → den P a (Post.thn (fun e' w'' X'' => ∃ m, m < n ∧ J m (C.map e') w'' X'') K) (merge M e env) w' X'
  | .exit id, K, env, w, X => K (.exit id) env w X
  | .ret, K, env, w, X => K .ret env w X
  | .skip, K, env, w, X => K .normal env w X
structure Plan where
  n : Nat
  boxes : List (Nat × Nat)
  der : List Nat
  glob : List Nat
  mat : List Nat
  car : List Nat
def Plan.isGlob (pl : Plan) (s : Nat) : Bool := pl.glob.contains s && decide (s < pl.n) && (look pl.boxes s).isNone && !pl.der.contains s
def Plan.plainDst (pl : Plan) (d : Nat) : Bool := decide (d < pl.n) && (look pl.boxes d).isNone && !pl.der.contains d
structure Ptr where
  s : Nat
  b : Nat
  off : Nat
  g : Option (Nat × Bool)
structure CS where
  sig : List (Nat × Ex)
  ptrs : List Ptr
  live : List Nat
def CS.start : CS := ⟨[], [], []⟩
def valOf (pl : Plan) (cs : CS) : Operand → Option Ex
  | .tmp t => if pl.isGlob t then some (.t t) else look cs.sig t
  | .const v => some (.c v)
  | .global g => some (.c (.pointer (some ⟨g, 0, none⟩)))
  | .func f => some (.c (.func (.func f) #[] #[]))
def findPtr (og : Option (Nat × Bool)) : List Ptr → Nat → Option (Nat × Nat)
  | [], _ => none
  | p :: r, t => if p.s = t then (if p.g.isNone || p.g == og then some (p.b, p.off) else none) else findPtr og r t
def ptrOf (pl : Plan) (cs : CS) (og : Option (Nat × Bool)) : Operand → Option (Nat × Nat × List Nat)
  | .tmp t => match look pl.boxes t with
    | some _ => some (t, 0, if cs.live.contains t then [] else [t])
    | none => if pl.der.contains t then (findPtr og cs.ptrs t).map fun (b, off) => (b, off, []) else none
  | _ => none
def CS.kill (cs : CS) (d : Nat) : CS :=
  ⟨cs.sig.filter fun p => p.1 != d && !p.2.over d, cs.ptrs.filter fun p => p.b != d && p.s != d && (match p.g with | some (g, _) => g != d | none => true), cs.live⟩
def CS.killBox (cs : CS) (b : Nat) : CS := ⟨cs.sig.filter fun p => !p.2.over b, cs.ptrs, cs.live⟩
def CS.bind (cs : CS) (pl : Plan) (d : Nat) : CS := let c := cs.kill d; if pl.isGlob d then c else { c with sig := (d, .t d) :: c.sig }
def CS.note (cs : CS) (d : Nat) (e : Ex) : CS := { cs with sig := (d, e) :: cs.sig.filter (fun p => p.1 != d), ptrs := cs.ptrs.filter fun p => p.s != d }
def CS.point (cs : CS) (d b off : Nat) (g : Option (Nat × Bool)) : CS :=
  { cs with sig := cs.sig.filter (fun p => p.1 != d), ptrs := ⟨d, b, off, g⟩ :: (cs.ptrs.filter fun p => p.s != d) }
def CS.lives (cs : CS) (l : List Nat) : CS := { cs with live := l ++ cs.live }
def setTo (pl : Plan) (cs : CS) (d : Nat) (e : Ex) : List TI × CS :=
  if pl.isGlob d || pl.mat.contains d then ([.set d e], cs.bind pl d) else ([], cs.note d e)
def fieldInfo (P : Program) (S f : Nat) : Option (Nat × Nat) :=
  match P.underlying S with
  | some (.struct fs) => (fs[f]?).bind fun x => (P.info? x.type).map fun i => (x.offset, i.size)
  | _ => none
def subst (pl : Plan) (cs : CS) : List Operand → Option (List (Nat × Ex))
  | [] => some []
  | .tmp t :: r => match valOf pl cs (.tmp t), subst pl cs r with
    | some e, some ss => some (match e with
      | .t n => if n = t then ss else (t, e) :: ss
      | _ => (t, e) :: ss)
    | _, _ => none
  | _ :: r => subst pl cs r
def isSliceT (P : Program) (t : Nat) : Bool := match P.underlying t with
  | some (.slice _) => true
  | _ => false
def isRd (P : Program) : Op → Bool
  | .pick .. | .nilCheck _ | .binOp .. | .unOp .. | .fieldAddr .. | .field .. | .indexAddr .. | .index .. | .extract .. | .slice .. | .build .. | .makeFunc ..
  | .makeInterface .. | .load .. | .lookup .. | .typeAssert .. | .move _ | .assign _ => true
  | .convert s d _ => !isSliceT P s && !isSliceT P d
  | .call { callee := .builtin b, .. } => match b with
    | .len | .cap | .min | .max => true
    | _ => false
  | _ => false
structure CR where
  fl : Bool
  nd : List Nat
  l : List TI
  cs : CS
  rb : List Nat
  sb : List Nat
def noSel : Op → Bool
  | .select .. => false
  | _ => true
def cReal (P : Program) (pl : Plan) (cs : CS) (m : Bool) (o : Oper) : Option CR :=
  match subst pl cs o.op.operands.toList with
  | none => none
  | some ss => if !noSel o.op then none else
    match o.dst with
    | some d => if !pl.plainDst d then none else
      if isRd P o.op then some ⟨true, [], [.rd d o.op o.type ss], cs.bind pl d, [], []⟩ else some ⟨false, [], [.eff (some d) o.op o.type ss m], cs.bind pl d, [], []⟩
    | none => some ⟨false, [], [.eff none o.op o.type ss m], cs, [], []⟩
def tyInfo (P : Program) (t : Nat) : Option (Bool × Nat) :=
  match P.underlying t, P.info? t with
  | some d, some i => some ((match d with | .struct _ | .array _ _ => true | _ => false), i.size)
  | _, _ => none
def cBox (P : Program) (pl : Plan) (cs : CS) (sz : Nat) (t : Nat) (e : Ex) (d : Nat) : Option CR :=
  match tyInfo P t with
  | some (ag, s) => if decide (d < pl.n) && s == sz then some ⟨false, [], [if !ag && s == 1 then .box1 d e else .box d sz e], (cs.kill d).lives [d], [], []⟩ else none
  | none => none
def cCore (P : Program) (pl : Plan) (cs : CS) (og : Option (Nat × Bool)) (m : Bool) (o : Oper) : Option CR :=
  match o.op with
  | .move x | .assign x => match o.dst, valOf pl cs x with
    | some d, some e => if pl.plainDst d then (let r := setTo pl cs d e; some ⟨true, [], r.1, r.2, [], []⟩) else none
    | _, _ => none
  | .box t x => match o.dst with
    | some d => match look pl.boxes d with
      | some sz => match valOf pl cs x with
        | some e => cBox P pl cs sz t e d
        | none => none
      | none => cReal P pl cs m o
    | none => none
  | .alloc t => match o.dst with
    | some d => match look pl.boxes d with
      | some sz => match (P.info? t).bind (·.zero) with
        | some z => cBox P pl cs sz t (.c z) d
        | none => none
      | none => cReal P pl cs m o
    | none => none
  | .fieldAddr S x f => match ptrOf pl cs og x with
    | some (b, off, nd) => match o.dst, fieldInfo P S f with
      | some d, some (fo, sz) => if pl.der.contains d && decide (d < pl.n) && (look pl.boxes d).isNone && sz != 0 then
          some ⟨true, nd, [], (cs.lives nd).point d b (off + fo) og, [], []⟩ else none
      | _, _ => none
    | none => cReal P pl cs m o
  | .load t x => match ptrOf pl cs og x with
    | some (b, off, nd) => match o.dst, tyInfo P t, look pl.boxes b with
      | some d, some (ag, sz), some bs => if pl.plainDst d && decide (off + sz ≤ bs) && (ag || sz == 1) then
          (let r := setTo pl (cs.lives nd) d (if ag then .s b off sz else .k b off); some ⟨true, nd, r.1, r.2, [b], []⟩) else none
      | _, _, _ => none
    | none => cReal P pl cs m o
  | .store t x v => match ptrOf pl cs og x with
    | some (b, off, nd) => match o.dst, valOf pl cs v, tyInfo P t, look pl.boxes b with
      | none, some e, some (ag, sz), some bs => if decide (off + sz ≤ bs) then
          some ⟨false, nd, [if !ag && sz == 1 then .put1 b off e else if off == 0 && sz == bs then .fill b sz e else .put b off sz e], (cs.lives nd).killBox b, [], [b]⟩ else none
      | _, _, _, _ => none
    | none => cReal P pl cs m o
  | _ => cReal P pl cs m o
def isFA : Op → Bool
  | .fieldAddr .. => true
  | _ => false
def guardL (g : Nat) (want : Bool) (op : Op) (r : CR) : Option CR :=
  match r.fl, r.l with
  | true, [] => if isFA op then some r else none
  | true, [.set d e] => if d = g then none else some { r with l := [.gset g want d e] }
  | true, [.rd d op ty ss] => if d = g then none else some { r with l := [.grd g want d op ty ss] }
  | false, [.eff d op ty ss m] => if d = some g then none else some { r with l := [.geff g want d op ty ss m] }
  | _, _ => none
def cOp (P : Program) (pl : Plan) (cs : CS) (ops : Array Oper) (m : Bool) (o : Oper) : Option CR :=
  match o.guard with
  | none => cCore P pl cs none m o
  | some (j, want) => match (ops[j]?).bind (·.dst) with
    | none => none
    | some gs => match valOf pl cs (.tmp gs) with
      | some (.t g) => (cCore P pl cs (some (g, want)) m o).bind (guardL g want o.op)
      | _ => none
def CR.all (r : CR) : List TI := r.nd.map .need ++ r.l
def cSeq (P : Program) (pl : Plan) (ops : Array Oper) : List Oper → CS → Option (List TI)
  | [], _ => some []
  | o :: r, cs => match cOp P pl cs ops true o with
    | some x => (cSeq P pl ops r x.cs).map (x.all ++ ·)
    | none => none
def waits (o : Oper) (i : Nat) : Bool := o.after.any fun e => Region.binds .any e && e.on == i
def blkC (ops : Array Oper) (listed : Array Bool) (S : List Nat) (j : Nat) : Bool := !listed.getD j true && match ops[j]? with
  | some o => o.after.any fun e => Region.binds .any e && S.contains e.on
  | none => false
def blkd (ops : Array Oper) (listed : Array Bool) (i : Nat) : List Nat := (List.range ops.size).foldl (fun S j => if blkC ops listed S j then j :: S else S) [i]
def befs (ops : Array Oper) (j : Nat) : List Nat :=
  (List.range (j + 1)).reverse.foldl (fun S k => if S.contains k then (match ops[k]? with
    | some o => o.after.toList.foldl (fun S e => if Region.binds .any e && !S.contains e.on then e.on :: S else S) S
    | none => S) else S) [j]
def pureO (o : Oper) : Bool := match o.op with
  | .extract .. => true
  | .move .. => true
  | _ => false
def ldX (pl : Plan) (o : Oper) : Bool := match o.op with
  | .load _ (.tmp x) => (look pl.boxes x).isSome
  | _ => false
def ldB (o : Oper) (rb : List Nat) : Bool := match o.op with
  | .load _ (.tmp x) => rb.contains x
  | _ => false
def lastB (pl : Plan) (ops : Array Oper) (j : Nat) : Bool :=
  match ops[j]? with
  | some oj => ((List.range ops.size).all fun i => i == j || waits oj i || (match ops[i]? with
    | some oi => waits oi j || pureO oi || ldX pl oi
    | none => true)) || (let B := befs ops j ++ blkd ops (Array.replicate ops.size false) j; (List.range ops.size).all fun i => B.contains i || (match ops[i]? with
    | some oi => pureO oi || ldX pl oi
    | none => true))
  | none => false
def baseOf (pl : Plan) (ops : Array Oper) : Nat → Operand → Option Nat
  | 0, _ => none
  | n + 1, .tmp t => match look pl.boxes t with
    | some _ => some t
    | none => match ops.find? (fun o => o.dst == some t) with
      | some o => (match o.op with
        | .fieldAddr _ x _ => baseOf pl ops n x
        | _ => none)
      | none => none
  | _ + 1, _ => none
def sbOf (pl : Plan) (ops : Array Oper) (o : Oper) : List Nat := match o.op with
  | .store _ x _ => (baseOf pl ops 6 x).toList
  | _ => []
def freeB (pl : Plan) (ops : Array Oper) (listed : Array Bool) (i : Nat) (rb : List Nat) : Bool :=
  match ops[i]? with
  | none => false
  | some oi => (match oi.dst with
      | some d => (look pl.boxes d).isNone
      | none => true) && (List.range ops.size).all fun j => j == i || listed.getD j true || match ops[j]? with
      | some oj => waits oj i || (oi.apart ops oj && (pureO oi || ldB oi rb || !lastB pl ops j) && (sbOf pl ops oj).all fun b => !rb.contains b) || (blkd ops listed i).contains j
      | none => true
def firstRd (P : Program) (pl : Plan) (ops : Array Oper) (cs : CS) (listed : Array Bool) : List Nat → Option (Nat × CR)
  | [] => none
  | i :: r => match (ops[i]?).bind (cOp P pl cs ops (lastB pl ops i)) with
    | some x => if x.fl && freeB pl ops listed i x.rb then some (i, x) else firstRd P pl ops cs listed r
    | none => firstRd P pl ops cs listed r
def allocBox (P : Program) (pl : Plan) (o : Oper) : Option (Nat × Nat × Bool × Value) := match o.guard, o.op, o.dst with
  | none, .alloc t, some d => match look pl.boxes d, (P.info? t).bind (·.zero), tyInfo P t with
    | some sz, some z, some (ag, s) => if decide (d < pl.n) && s == sz then some (d, sz, !ag && s == 1, z) else none
    | _, _, _ => none
  | _, _, _ => none
def boxI : Nat × Nat × Bool × Value → TI
  | (d, sz, one, z) => if one then .box1 d (.c z) else .box d sz (.c z)
def boxCS (cs : CS) (d : Nat) : CS := (cs.kill d).lives [d]
def isL1 (l : List Nat) (i : Nat) : Bool := match l with
  | [x] => x == i
  | _ => false
def pairB (P : Program) (pl : Plan) (ops : Array Oper) (listed : Array Bool) (i j : Nat) : Option (Nat × Nat × Bool × Value) :=
  match (ops[i]?).bind (allocBox P pl), (ops[j]?).bind (allocBox P pl) with
  | some bi, some bj => if !(bi.1 == bj.1) && isL1 (Region.ready .any ops (listed.setIfInBounds i true)) j && isL1 (Region.ready .any ops (listed.setIfInBounds j true)) i then some bi else none
  | _, _ => none
def cDraw (P : Program) (pl : Plan) (ops : Array Oper) : Nat → Array Bool → CS → Option (List TI)
  | 0, listed, _ => if (Region.ready .any ops listed).isEmpty then some [] else none
  | fuel + 1, listed, cs =>
    match firstRd P pl ops cs listed (Region.ready .any ops listed) with
    | some (i, x) => (cDraw P pl ops fuel (listed.setIfInBounds i true) x.cs).map (x.all ++ ·)
    | none => match Region.ready .any ops listed with
      | [i] => match ops[i]? with
        | some o => match cOp P pl cs ops (lastB pl ops i) o with
          | some x => if x.sb.all fun b => (sbOf pl ops o).contains b then (cDraw P pl ops fuel (listed.setIfInBounds i true) x.cs).map (x.all ++ ·) else none
          | none => none
        | none => none
      | [i, j] => match pairB P pl ops listed i j with
        | some b => (cDraw P pl ops fuel (listed.setIfInBounds i true) (boxCS cs b.1)).map (boxI b :: ·)
        | none => none
      | _ => none
def TI.mk1 : TI → List Nat
  | .set d _ => [d]
  | .box b _ _ => [b]
  | .box1 b _ => [b]
  | .rd d _ _ _ => [d]
  | .eff d _ _ _ _ => d.toList
  | .gset _ _ d _ => [d]
  | .grd _ _ d _ _ _ => [d]
  | .geff _ _ d _ _ _ _ => d.toList
  | _ => []
def mkL (l : List TI) : List Nat := l.flatMap TI.mk1
def TI.wr : TI → List Nat
  | .need _ => []
  | .set d _ => [d]
  | .box b _ _ => [b]
  | .put b _ _ _ => [b]
  | .box1 b _ => [b]
  | .put1 b _ _ => [b]
  | .fill b _ _ => [b]
  | .rd d _ _ _ => [d]
  | .eff d _ _ _ _ => d.toList
  | .gset _ _ d _ => [d]
  | .grd _ _ d _ _ _ => [d]
  | .geff _ _ d _ _ _ _ => d.toList
def T.wr : T → List Nat
  | .reg l => l.flatMap TI.wr
  | .seq a b => a.wr ++ b.wr
  | .ite _ a b => a.wr ++ b.wr
  | .blk _ a => a.wr
  | .loop M _ a => M ++ a.wr
  | _ => []
def T.mk : T → List Nat
  | .reg l => mkL l
  | .seq a b => a.mk ++ b.mk
  | .ite _ a b => a.mk ++ b.mk
  | .blk _ a => a.mk
  | .loop _ _ a => a.mk
  | _ => []
def addNew : List Nat → List Nat → List Nat
  | [], acc => acc
  | x :: r, acc => addNew r (if acc.contains x then acc else x :: acc)
def cCode (P : Program) (pl : Plan) : Code → Option T
  | .skip => some .skip
  | .region _ ops draw => if draw then (if P.follows .mixedOrders && Region.noSelect ops then (cDraw P pl ops ops.size (Array.replicate ops.size false) .start).map .reg else none) else (cSeq P pl ops ops.toList .start).map .reg
  | .seq a b => match cCode P pl a, cCode P pl b with
    | some x, some y => some (match x, y with
      | .skip, y => y
      | x, .skip => x
      | x, y => .seq x y)
    | _, _ => none
  | .cond c a b => match valOf pl .start c, cCode P pl a, cCode P pl b with
    | some e, some x, some y => some (.ite e x y)
    | _, _, _ => none
  | .block id a => (cCode P pl a).map (.blk id)
  | .loop a => (cCode P pl a).map fun x => .loop (addNew x.wr []) ((addNew x.wr []).filter (inL pl.car)) x
  | .exit id => some (.exit id)
  | .ret => some .ret
  | _ => none
def cRes (P : Program) (pl : Plan) : List ResultVar → Option (List Ex × List Nat)
  | [] => some ([], [])
  | .tmp t :: r => if pl.isGlob t then (cRes P pl r).map fun (l, n) => (.t t :: l, n) else none
  | .cell a t :: r => match look pl.boxes a, tyInfo P t with
    | some bs, some (ag, sz) => if decide (sz ≤ bs) && (ag || sz == 1) then (cRes P pl r).map fun (l, n) => ((if ag then .s a 0 sz else .k a 0) :: l, a :: n) else none
    | _, _ => none
structure FT where
  code : T
  res : List Ex
  live : List Nat
def cF (P : Program) (pl : Plan) (fn : Func) : Option FT :=
  if fn.ntmps == pl.n then
    match fn.body with
    | some c => match cCode P pl c, cRes P pl fn.results.toList with
      | some t, some (r, n) => some ⟨t, r, n⟩
      | _, _ => none
    | none => none
  else none
def resV (l : List Ex) (env : Env) : Value := match l with
  | [e] => e.ev env
  | l => .tuple (l.map (·.ev env)).toArray
def endK (ft : FT) (R : Ending → World → Prop) : Post
  | .normal, e, w, X | .ret, e, w, X => chk (ft.live.all fun b => isA (e b)) (∀ wa, Kp X w wa → R (.returned (resV ft.res e)) wa)
  | .panic ch, _, w, X => ∀ wa, Kp X w wa → R (.panicked ch) wa
  | _, _, _, _ => False
def args0 (args : Array Value) : Env := fun i => args.toList.getD i undef
end Go.Eng
namespace Go.Eng
section
variable {P : Program} {ops : Array Oper} {Q : Exit → Act → World → Prop}
def ptrV (k off : Nat) : Value := .pointer (some ⟨k, off, none⟩)
def ZB (pl : Plan) (RB : List Nat) (a : Act) : XS := fun k => ∃ b n, look pl.boxes b = some n ∧ ¬ b ∈ RB ∧ a.tmps[b]? = some (ptrV k 0)
def YF (P : Program) (pl : Plan) (RB : List Nat) (ops : Array Oper) (o : Oper) (v : Value) (a : Act) (w : World) : Prop :=
  (Region.wanted o (yielded ops a.tmps) = true ∧ ∀ wa, Fr (ZB pl RB a) w wa → (execOp a.eval o).run P wa = .ok (.value v) wa) ∨ (Region.wanted o (yielded ops a.tmps) = false ∧ v = undef)
def RelJ (pl : Plan) (sb : List Nat) (a : Act) (w : World) (a' : Act) (w' : World) : Prop :=
  ∀ RB, (∀ b, b ∈ sb → ¬ b ∈ RB) → Fr (ZB pl RB a) w w' ∧ ∀ k, k < w.heap.size → ZB pl RB a' k → ZB pl RB a k
theorem YF.rel {pl : Plan} {RB sb : List Nat} {o : Oper} {v : Value} {a a' : Act} {w w' : World} (h : YF P pl RB ops o v a w) (hx : RelJ pl sb a w a' w') (hd : ∀ b, b ∈ sb → ¬ b ∈ RB)
    (he : execOp a'.eval o = execOp a.eval o) (hw : Region.wanted o (yielded ops a'.tmps) = Region.wanted o (yielded ops a.tmps)) : YF P pl RB ops o v a' w' := by
  obtain ⟨h1, h2⟩ := hx RB hd
  unfold YF at *
  rw [he, hw]
  refine h.imp (fun ⟨g1, g2⟩ => ⟨g1, fun wa ha => g2 wa ?_⟩) id
  exact ⟨ha.os.trans h1.os, ha.tape.trans h1.tape, ha.output.trans h1.output, Nat.le_trans h1.size ha.size,
    fun k hk hz => (ha.block k (Nat.lt_of_lt_of_le hk h1.size) (fun hz' => hz (h2 k hk hz'))).trans (h1.block k hk hz)⟩
def RelB (pl : Plan) (sb : List Nat) (a : Act) (w w' : World) : Prop :=
  ∀ b n k, look pl.boxes b = some n → ¬ b ∈ sb → a.tmps[b]? = some (ptrV k 0) → w'.heap[k]? = w.heap[k]?
def RelG (L : Prop) (pl : Plan) (sb : List Nat) (a : Act) (w : World) (a' : Act) (w' : World) : Prop := (L → RelJ pl sb a w a' w') ∧ RelB pl sb a w w'
def Yx (P : Program) (ops : Array Oper) (o : Oper) (v : Value) (a : Act) (w : World) : Prop :=
  (Region.wanted o (yielded ops a.tmps) = true ∧ (execOp a.eval o).run P w = .ok (.value v) w) ∨ (Region.wanted o (yielded ops a.tmps) = false ∧ v = undef)
def YL (P : Program) (pl : Plan) (x : Nat) (ops : Array Oper) (o : Oper) (v : Value) (a : Act) (w : World) : Prop :=
  (Region.wanted o (yielded ops a.tmps) = true ∧ ∃ k n, look pl.boxes x = some n ∧ a.tmps[x]? = some (ptrV k 0) ∧ ∀ wa : World, wa.heap[k]? = w.heap[k]? → (execOp a.eval o).run P wa = .ok (.value v) wa) ∨
    (Region.wanted o (yielded ops a.tmps) = false ∧ v = undef)
theorem YF.yx {pl : Plan} {RB : List Nat} {o : Oper} {v : Value} {a : Act} {w : World} (h : YF P pl RB ops o v a w) : Yx P ops o v a w := h.imp (fun ⟨g1, g2⟩ => ⟨g1, g2 w (Fr.refl _ w)⟩) id
theorem YL.yx {pl : Plan} {x : Nat} {o : Oper} {v : Value} {a : Act} {w : World} (h : YL P pl x ops o v a w) : Yx P ops o v a w := h.imp (fun ⟨g1, _, _, _, _, g2⟩ => ⟨g1, g2 w rfl⟩) id
def Stb (pl : Plan) (ops : Array Oper) (oi oj : Oper) (L : Prop) (sb : List Nat) (Y : Act → World → Prop) : Prop :=
  ∀ a a' w w', RelG L pl sb a w a' w' → execOp a'.eval oi = execOp a.eval oi → Region.wanted oi (yielded ops a'.tmps) = Region.wanted oi (yielded ops a.tmps) →
    (∀ x : Nat, (∀ d, oj.dst = some d → d ≠ x) → a'.tmps[x]? = a.tmps[x]?) → Y a w → Y a' w'
theorem RelB.refl (pl : Plan) (sb : List Nat) (a : Act) (w : World) : RelB pl sb a w w := fun _ _ _ _ _ _ => rfl
theorem RelB.of_put {pl : Plan} {sb : List Nat} {a : Act} {w w' : World} {d : Option Nat} {v : Value} (hd : ∀ x, d = some x → look pl.boxes x = none) (h : RelB pl sb (a.put d v) w w') : RelB pl sb a w w' := by
  intro b n k hb hn hk
  refine h b n k hb hn ?_
  cases d with
  | none => exact hk
  | some x =>
    have hne : x ≠ b := fun e => by subst e; rw [hd x rfl] at hb; cases hb
    simpa [Act.put, Array.getElem?_setIfInBounds_ne hne] using hk
theorem RelB.sub {pl : Plan} {sb sb' : List Nat} {a : Act} {w w' : World} (h : RelB pl sb a w w') (hs : ∀ b, b ∈ sb → b ∈ sb') : RelB pl sb' a w w' :=
  fun b n k hb hn hk => h b n k hb (fun hm => hn (hs b hm)) hk
theorem Yx.wpOp {i : Nat} {o : Oper} {v : Value} {a : Act} {w : World} (hi : ops[i]? = some o) (hy : Yx P ops o v a w)
    {K : Act → World → Prop} (h : K (a.put o.dst v) w) : wpOp P ops Q i K a w := by
  unfold Go.wpOp
  simp only [hi]
  rcases hy with ⟨hw, hv⟩ | ⟨hw, rfl⟩
  · simp only [hw, if_true, Oper.wp, hv, Oper.upon]; exact .inl h
  · simp only [hw, Bool.false_eq_true, if_false]; exact h
theorem ZB_put {pl : Plan} {RB : List Nat} {a : Act} {d : Option Nat} {v : Value} (hd : ∀ x, d = some x → look pl.boxes x = none) : ZB pl RB (a.put d v) = ZB pl RB a := by
  cases d with
  | none => rfl
  | some x =>
    have hx := hd x rfl
    funext k
    simp only [ZB, eq_iff_iff]
    have key : ∀ b n, look pl.boxes b = some n → (a.put (some x) v).tmps[b]? = a.tmps[b]? := fun b n hb => by
      have hne : x ≠ b := fun e => by subst e; rw [hx] at hb; cases hb
      simp [Act.put, Array.getElem?_setIfInBounds_ne hne]
    constructor <;> rintro ⟨b, n, h1, h2, h3⟩ <;> refine ⟨b, n, h1, h2, ?_⟩
    · rwa [key b n h1] at h3
    · rwa [key b n h1]
theorem RelJ.of_put {pl : Plan} {sb : List Nat} {a a' : Act} {w w' : World} {d : Option Nat} {v : Value} (hd : ∀ x, d = some x → look pl.boxes x = none) (h : RelJ pl sb (a.put d v) w (a'.put d v) w') : RelJ pl sb a w a' w' := by
  intro RB hRB
  have := h RB hRB
  rwa [ZB_put hd, ZB_put hd] at this
theorem RelJ.refl (pl : Plan) (sb : List Nat) (a : Act) (w : World) (d : Option Nat) (v : Value) (hd : ∀ x, d = some x → look pl.boxes x = none) : RelJ pl sb a w (a.put d v) w := by
  intro RB _
  rw [ZB_put hd]
  exact ⟨Fr.refl _ _, fun _ _ h => h⟩
theorem pureO_run {o : Oper} (hp : pureO o = true) {ρ : Operand → Value} {v : Value} {w wa : World} (h : (execOp ρ o).run P w = .ok (.value v) w) : (execOp ρ o).run P wa = .ok (.value v) wa := by
  unfold pureO at hp
  split at hp
  · rename_i x i ho
    simp only [execOp, ho] at h ⊢
    unfold Instr.extract at h ⊢
    split at h <;> simp_all
    all_goals (split at h <;> simp_all)
  · rename_i x ho
    simp only [execOp, ho] at h ⊢
    simp_all
  · cases hp
theorem YF.pure {pl : Plan} {RB : List Nat} {o : Oper} {v : Value} {a a' : Act} {w w' : World} (h : YF P pl RB ops o v a w) (hp : pureO o = true)
    (he : execOp a'.eval o = execOp a.eval o) (hw : Region.wanted o (yielded ops a'.tmps) = Region.wanted o (yielded ops a.tmps)) : YF P pl RB ops o v a' w' := by
  unfold YF at *
  rw [he, hw]
  exact h.imp (fun ⟨g1, g2⟩ => ⟨g1, fun wa _ => pureO_run hp (g2 w (Fr.refl _ _))⟩) id
def wpAnyG (P : Program) (pl : Plan) (ops : Array Oper) (Q : Exit → Act → World → Prop) : Nat → Array Bool → Act → World → Prop
  | 0, listed, a, w => Region.ready .any ops listed = [] ∧ Q .normal a w
  | fuel + 1, listed, a, w =>
    (Region.ready .any ops listed = [] → Q .normal a w) ∧
    ∀ i ∈ Region.ready .any ops listed, wpOp P ops Q i (fun a' w' => (∀ o, ops[i]? = some o → RelG (lastB pl ops i = false) pl (sbOf pl ops o) a w a' w') ∧ wpAnyG P pl ops Q fuel (listed.setIfInBounds i true) a' w') a w
theorem wpAny_of_G {pl : Plan} : ∀ (fuel : Nat) (listed : Array Bool) (a : Act) (w : World), wpAnyG P pl ops Q fuel listed a w → wpAny P .any ops Q fuel listed a w
  | 0, _, _, _, h => h
  | fuel + 1, _, _, _, h => ⟨h.1, fun i hi => wpOp_mono (fun a' w' h' => wpAny_of_G fuel _ a' w' h'.2) (h.2 i hi)⟩
theorem YF.stb {pl : Plan} {RB sb : List Nat} {oi oj : Oper} {v : Value} {L : Prop} (hL : L ∨ pureO oi = true) (hd : ∀ b, b ∈ sb → ¬ b ∈ RB) : Stb pl ops oi oj L sb (YF P pl RB ops oi v) := by
  intro a a' w w' hr e2 e3 _ hy
  rcases hL with hl | hp
  · exact hy.rel (hr.1 hl) hd e2 e3
  · exact hy.pure hp e2 e3
theorem YL.stb {pl : Plan} {x : Nat} {sb : List Nat} {oi oj : Oper} {v : Value} {L : Prop} (hx : ∀ d, oj.dst = some d → d ≠ x) (hd : ¬ x ∈ sb) : Stb pl ops oi oj L sb (YL P pl x ops oi v) := by
  intro a a' w w' hr e2 e3 e4 hy
  unfold YL at *
  rw [e2, e3, e4 x hx]
  exact hy.imp (fun ⟨g1, k, n, g2, g3, g4⟩ => ⟨g1, k, n, g2, g3, fun wa hw => g4 wa (hw.trans (hr.2 x n k g2 hd g3))⟩) id
theorem wpOp_putG {pl : Plan} {sb : List Nat} {L : Prop} {Y : Act → World → Prop} {j : Nat} {oi oj : Oper} {v : Value} (hj : ops[j]? = some oj) (hap : oi.apart ops oj = true)
    (hsi : ∀ cs b, oi.op ≠ .select cs b) (hsj : ∀ cs b, oj.op ≠ .select cs b) (hdi : ∀ x, oi.dst = some x → look pl.boxes x = none) (hst : Stb pl ops oi oj L sb Y)
    (hQ : ∀ c a w, Q (.panic c) (a.put oi.dst v) w → Q (.panic c) a w) {K : Act → World → Prop} {a : Act} {w : World}
    (hy : Y a w) (h : wpOp P ops Q j (fun a' w' => RelG L pl sb (a.put oi.dst v) w a' w' ∧ K a' w') (a.put oi.dst v) w) :
    wpOp P ops Q j (fun a' w' => RelG L pl sb a w a' w' ∧ Y a' w' ∧ K (a'.put oi.dst v) w') a w := by
  obtain ⟨h1, h2, h3⟩ := Oper.apart_spec hap
  have fin : ∀ (a0 : Act) (w' : World) (u : Value), a0.tmps = a.tmps → RelG L pl sb (a.put oi.dst v) w ((a0.put oi.dst v).put oj.dst u) w' → K ((a0.put oi.dst v).put oj.dst u) w' →
      RelG L pl sb a w (a0.put oj.dst u) w' ∧ Y (a0.put oj.dst u) w' ∧ K ((a0.put oj.dst u).put oi.dst v) w' := by
    intro a0 w' u h0 hr hk
    rw [Act.put_comm a0 v u h2] at hr hk
    have hr' : RelG L pl sb a w (a0.put oj.dst u) w' := ⟨fun hl : L => (hr.1 hl).of_put hdi, hr.2.of_put hdi⟩
    have e1 : execOp a0.eval oi = execOp a.eval oi := by
      have : a0.eval = a.eval := by funext x; cases x <;> simp [Act.eval, h0]
      rw [this]
    have e2 := (execOp_put oi hsi a0 oj.dst u h3).trans e1
    have e3 : Region.wanted oi (yielded ops (a0.put oj.dst u).tmps) = Region.wanted oi (yielded ops a.tmps) := (wanted_put oi a0 oj.dst u h3).trans (by rw [h0])
    refine ⟨hr', hst a _ w w' hr' e2 e3 (fun x hx => ?_) hy, hk⟩
    cases hod : oj.dst with
    | none => simp [Act.put, h0]
    | some d => simp [Act.put, h0, Array.getElem?_setIfInBounds_ne (hx d hod)]
  unfold wpOp at *
  simp only [hj] at *
  rw [wanted_put oj a oi.dst v h1] at h
  split
  · rename_i hw
    simp only [hw, if_true] at h
    rcases h with h | ⟨hasks, hlets⟩
    case inr => exact .inr ⟨by unfold Oper.asks at *; rw [execOp_put oj hsj a oi.dst v h1] at hasks; exact hasks, hlets⟩
    refine .inl ?_
    unfold Oper.wp at *
    rw [execOp_put oj hsj a oi.dst v h1] at h
    generalize (execOp a.eval oj).run P w = r at *
    cases r with
    | ok n w' =>
      cases n <;> simp only [Oper.upon] at h ⊢
      case value u => exact fin a w' u rfl h.1 h.2
      case skip => exact fin a w' undef rfl h.1 h.2
      case defer d =>
        have e : ({ a.put oi.dst v with defers := d :: (a.put oi.dst v).defers } : Act) = ({ a with defers := d :: a.defers } : Act).put oi.dst v := Act.put_defers a oi.dst v d
        rw [e] at h
        exact fin { a with defers := d :: a.defers } w' undef rfl h.1 h.2
      case enter f args =>
        refine Calls.mono h fun e w'' he => ?_
        cases e with
        | returned u => exact fin a w'' u rfl he.1 he.2
        | panicked c => exact hQ _ _ _ he
        | outgrown => exact he
      case row row args => exact Rows.mono h fun u w'' he => fin a w'' u rfl he.1 he.2
    | halt x w' =>
      cases x <;> simp only [Oper.upon] at h ⊢
      case panic u => exact hQ _ _ _ h
  · rename_i hw
    simp only [hw] at h
    exact fin a w undef rfl h.1 h.2
theorem waits_iff {o : Oper} {i : Nat} : waits o i = true ↔ ∃ e ∈ o.after, Region.binds .any e = true ∧ e.on = i := by
  unfold waits; rw [Array.any_eq_true']; simp
theorem blkd_spec {listed : Array Bool} {i : Nat} : ∀ j, j ∈ blkd ops listed i → j = i ∨ (listed.getD j true = false ∧ ∃ oj k, ops[j]? = some oj ∧ waits oj k = true ∧ k ∈ blkd ops listed i) := by
  unfold blkd
  have key : ∀ (l : List Nat) (S : List Nat), (∀ j, j ∈ S → j = i ∨ (listed.getD j true = false ∧ ∃ oj k, ops[j]? = some oj ∧ waits oj k = true ∧ k ∈ S)) →
      ∀ j, j ∈ l.foldl (fun S j => if blkC ops listed S j then j :: S else S) S → j = i ∨ (listed.getD j true = false ∧ ∃ oj k, ops[j]? = some oj ∧ waits oj k = true ∧ k ∈ l.foldl (fun S j => if blkC ops listed S j then j :: S else S) S) := by
    intro l
    induction l with
    | nil => intro S hS j hj; exact hS j hj
    | cons x l ih =>
      intro S hS
      rw [List.foldl_cons]
      refine ih _ ?_
      split
      · rename_i hc
        simp only [blkC, Bool.and_eq_true, Bool.not_eq_true'] at hc
        obtain ⟨h1, h2⟩ := hc
        intro j hj
        rcases List.mem_cons.1 hj with rfl | hj
        · right
          cases ho : ops[j]? with
          | none => simp [ho] at h2
          | some o =>
            simp only [ho, Array.any_eq_true', Bool.and_eq_true, List.contains_iff_mem] at h2
            obtain ⟨e, he, hb, hm⟩ := h2
            exact ⟨h1, o, e.on, rfl, waits_iff.2 ⟨e, he, hb, rfl⟩, List.mem_cons_of_mem _ hm⟩
        · rcases hS j hj with h | ⟨h, oj, k, h3, h4, h5⟩
          · exact .inl h
          · exact .inr ⟨h, oj, k, h3, h4, List.mem_cons_of_mem _ h5⟩
      · exact hS
  exact key _ _ fun j hj => .inl (by simpa using hj)
theorem wpAnyG_first {pl : Plan} {Y : Act → World → Prop} {i : Nat} {oi : Oper} {v : Value} (hyx : ∀ a w, Y a w → Yx P ops oi v a w) (hi : ops[i]? = some oi) (hsel : ∀ (j : Nat) (o : Oper) cs b, ops[j]? = some o → o.op ≠ .select cs b)
    (hdi : ∀ x, oi.dst = some x → look pl.boxes x = none) (hQ : ∀ c a w, Q (.panic c) (a.put oi.dst v) w → Q (.panic c) a w) :
    ∀ (fuel : Nat) (listed : Array Bool) (a : Act) (w : World) (S : Nat → Prop), S i →
      (∀ j, S j → j = i ∨ (listed.getD j true = false ∧ ∃ oj k, ops[j]? = some oj ∧ waits oj k = true ∧ S k)) →
      (∀ j oj, ops[j]? = some oj → j ≠ i → listed.getD j true = false → ¬ S j → oi.apart ops oj = true ∧ Stb pl ops oi oj (lastB pl ops j = false) (sbOf pl ops oj) Y) →
      i ∈ Region.ready .any ops listed → Y a w →
      wpAnyG P pl ops Q fuel (listed.setIfInBounds i true) (a.put oi.dst v) w → wpAnyG P pl ops Q (fuel + 1) listed a w := by
  intro fuel
  induction fuel with
  | zero =>
    intro listed a w S _ hS _ hr hy H
    refine ⟨fun h => (by rw [h] at hr; cases hr), fun j hj => ?_⟩
    by_cases hji : j = i
    · subst hji; exact (hyx _ _ hy).wpOp hi ⟨fun _ _ => ⟨fun _ => RelJ.refl pl _ a w _ _ hdi, RelB.refl _ _ _ _⟩, H⟩
    · have := ready_mono hj hji
      rw [H.1] at this
      cases this
  | succ fuel ih =>
    intro listed a w S hSi hS hfree hr hy H
    refine ⟨fun h => (by rw [h] at hr; cases hr), fun j hj => ?_⟩
    by_cases hji : j = i
    · subst hji; exact (hyx _ _ hy).wpOp hi ⟨fun _ _ => ⟨fun _ => RelJ.refl pl _ a w _ _ hdi, RelB.refl _ _ _ _⟩, H⟩
    · have h1 := H.2 j (ready_mono hj hji)
      obtain ⟨hjun, oj, hoj, hall⟩ := mem_ready.1 hj
      have hnot : ¬ S j := by
        intro hjS
        rcases hS j hjS with h | ⟨_, oj', k, hoj', hwt, hkS⟩
        · exact hji h
        · rw [hoj] at hoj'; cases hoj'
          obtain ⟨e, he, hb, heq⟩ := waits_iff.1 hwt
          have h1 := hall e he hb
          rw [heq] at h1
          have h0 : listed.getD k true = false := by
            rcases hS k hkS with h | h
            · subst h; exact (mem_ready.1 hr).1
            · exact h.1
          rcases Nat.lt_or_ge k listed.size with h' | h'
          · simp [h'] at h0 h1; rw [h0] at h1; cases h1
          · simp [Array.getElem?_eq_none h'] at h1
      obtain ⟨hap, hstb⟩ := hfree j oj hoj hji hjun hnot
      have h1' := wpOp_mono (K' := fun a' w' => RelG (lastB pl ops j = false) pl (sbOf pl ops oj) (a.put oi.dst v) w a' w' ∧ wpAnyG P pl ops Q fuel ((listed.setIfInBounds i true).setIfInBounds j true) a' w')
        (fun a' w' h' => ⟨h'.1 oj hoj, h'.2⟩) h1
      have h2 := wpOp_putG hoj hap (fun cs b => hsel i oi cs b hi) (fun cs b => hsel j oj cs b hoj) hdi hstb hQ hy h1'
      have hfree' : ∀ k ok, ops[k]? = some ok → k ≠ i → (listed.setIfInBounds j true).getD k true = false → ¬ S k →
          oi.apart ops ok = true ∧ Stb pl ops oi ok (lastB pl ops k = false) (sbOf pl ops ok) Y := fun k ok hk hki hun hno => by
        refine hfree k ok hk hki ?_ hno
        by_cases hjk : j = k
        · subst hjk; exact hjun
        · rw [getD_set_ne true hjk] at hun; exact hun
      have hS' : ∀ k, S k → k = i ∨ ((listed.setIfInBounds j true).getD k true = false ∧ ∃ oj k', ops[k]? = some oj ∧ waits oj k' = true ∧ S k') := fun k hk => by
        rcases hS k hk with h | ⟨h, h2⟩
        · exact .inl h
        · exact .inr ⟨by rw [getD_set_ne true (fun e => hnot (by rw [e]; exact hk))]; exact h, h2⟩
      refine wpOp_mono (fun a' w' h3 => ⟨fun o ho => ?_, ih (listed.setIfInBounds j true) a' w' S hSi hS' hfree' (ready_mono hr (Ne.symm hji)) h3.2.1 ?_⟩) h2
      · rw [hoj] at ho; injection ho with ho; subst ho; exact h3.1
      rw [Array.setIfInBounds_comm _ _ hji]
      exact h3.2.2
theorem freeB_dst {pl : Plan} {RB : List Nat} {i : Nat} {oi : Oper} {listed : Array Bool} (hi : ops[i]? = some oi) (h : freeB pl ops listed i RB = true) : ∀ x, oi.dst = some x → look pl.boxes x = none := by
  simp only [freeB, hi, Bool.and_eq_true] at h
  intro x hx
  have := h.1
  rw [hx] at this
  simpa using this
theorem freeB_spec {pl : Plan} {RB : List Nat} {i : Nat} {oi : Oper} {listed : Array Bool} (hi : ops[i]? = some oi) (h : freeB pl ops listed i RB = true) (j : Nat) (oj : Oper)
    (hj : ops[j]? = some oj) (hne : j ≠ i) (hun : listed.getD j true = false) (hno : ¬ j ∈ blkd ops listed i) (hnw : waits oj i = false) :
    oi.apart ops oj = true ∧ (lastB pl ops j = false ∨ pureO oi = true ∨ ldB oi RB = true) ∧ ∀ b, b ∈ sbOf pl ops oj → ¬ b ∈ RB := by
  simp only [freeB, hi, Bool.and_eq_true, List.all_eq_true, List.mem_range] at h
  have h1 := h.2 j (Array.getElem?_eq_some_iff.1 hj).1
  simp only [hj, Bool.or_eq_true, beq_iff_eq, hne, false_or, hun, Bool.false_eq_true, hnw, Bool.and_eq_true, Bool.not_eq_true', List.all_eq_true, List.contains_iff_mem, hno, or_false] at h1
  exact ⟨h1.1.1, h1.1.2.elim (fun h => .inr h) .inl, fun b hb => by have := h1.2 b hb; simpa using this⟩
end
end Go.Eng
namespace Go.Eng
def gOK (env : Env) : Option (Nat × Bool) → Prop
  | none => True
  | some (g, want) => gWant (env g) want = true
structure Bk where
  ds : List Deferred
  pins : List (Nat × Value)
structure Sim (pl : Plan) (ds : Bk) (cs : CS) (env : Env) (X : XS) (w0 : World) (a : Act) (w : World) : Prop where
  size : a.tmps.size = pl.n
  defers : a.defers = ds.ds
  pin : ∀ p, p ∈ ds.pins → a.tmps[p.1]? = some p.2 ∧ ((∃ n k, look pl.boxes p.1 = some n ∧ p.2 = ptrV k 0) ∨ pl.isGlob p.1 = true)
  ext : Kp X w0 w
  xlt : ∀ k, X k → k < w.heap.size
  glob : ∀ s, pl.isGlob s = true → a.tmps[s]? = some (env s)
  sig : ∀ p, p ∈ cs.sig → a.tmps[p.1]? = some (p.2.ev env)
  box : ∀ b n, look pl.boxes b = some n → ∀ cells, env b = .agg cells → ∃ k ty, a.tmps[b]? = some (ptrV k 0) ∧ w.heap[k]? = some (.cells cells ty (0, 0)) ∧ cells.size = n ∧ ¬ X k
  inj : ∀ b b' n n', look pl.boxes b = some n → look pl.boxes b' = some n' → isA (env b) = true → isA (env b') = true → ∀ k, a.tmps[b]? = some (ptrV k 0) → a.tmps[b']? = some (ptrV k 0) → b = b'
  conv : ∀ b n, look pl.boxes b = some n → ∀ k, a.tmps[b]? = some (ptrV k 0) → isA (env b) = true
  live : ∀ b, b ∈ cs.live → (∃ n, look pl.boxes b = some n) ∧ isA (env b) = true
  ptr : ∀ p, p ∈ cs.ptrs → (∃ n, look pl.boxes p.b = some n) ∧ (gOK env p.g → isA (env p.b) = true ∧ ∃ k, a.tmps[p.b]? = some (ptrV k 0) ∧ a.tmps[p.s]? = some (ptrV k p.off))
theorem put_get (a : Act) (d : Nat) (v : Value) (s : Nat) (hd : d < a.tmps.size) : (a.put (some d) v).tmps[s]? = if s = d then some v else a.tmps[s]? := by
  simp only [Act.put, Array.getElem?_setIfInBounds]
  by_cases h : s = d
  · subst h; simp [hd]
  · rw [if_neg (Ne.symm h), if_neg h]
theorem put_ne (a : Act) (d : Nat) (v : Value) (s : Nat) (h : s ≠ d) : (a.put (some d) v).tmps[s]? = a.tmps[s]? := by
  simp only [Act.put, Array.getElem?_setIfInBounds]
  rw [if_neg (Ne.symm h)]
theorem upd_same (e : Env) (d : Nat) (v : Value) : upd e d v d = v := by simp [upd]
theorem upd_ne (e : Env) {d s : Nat} (v : Value) (h : s ≠ d) : upd e d v s = e s := by
  have : (s == d) = false := by simpa using h
  simp [upd, this]
theorem ev_upd {e : Ex} {d : Nat} (h : e.over d = false) (env : Env) (v : Value) : e.ev (upd env d v) = e.ev env := by
  cases e <;> simp only [Ex.over, beq_eq_false_iff_ne, ne_eq] at h <;> simp [Ex.ev, upd_ne, h]
theorem isA_iff {v : Value} : isA v = true ↔ ∃ c, v = .agg c := by
  cases v <;> simp [isA]
section
variable {P : Program} {pl : Plan} {ds : Bk} {cs : CS} {env : Env} {X : XS} {w0 w : World} {a : Act}
theorem isGlob_spec {s : Nat} (h : pl.isGlob s = true) : s < pl.n ∧ look pl.boxes s = none ∧ pl.der.contains s = false := by
  simp only [Plan.isGlob, Bool.and_eq_true, decide_eq_true_eq, Option.isNone_iff_eq_none, Bool.not_eq_true'] at h
  exact ⟨h.1.1.2, h.1.2, h.2⟩
theorem plainDst_spec {s : Nat} (h : pl.plainDst s = true) : s < pl.n ∧ look pl.boxes s = none ∧ pl.der.contains s = false := by
  simp only [Plan.plainDst, Bool.and_eq_true, decide_eq_true_eq, Option.isNone_iff_eq_none, Bool.not_eq_true'] at h
  exact ⟨h.1.1, h.1.2, h.2⟩
theorem look_mem {α : Type} {l : List (Nat × α)} {t : Nat} {e : α} (h : look l t = some e) : (t, e) ∈ l := by
  induction l with
  | nil => cases h
  | cons p r ih =>
    obtain ⟨s, x⟩ := p
    simp only [look] at h
    split at h
    · rename_i hs
      injection h with h
      subst hs h
      exact List.mem_cons_self ..
    · exact List.mem_cons_of_mem _ (ih h)
theorem Sim.eval (h : Sim pl ds cs env X w0 a w) {x : Operand} {e : Ex} (hv : valOf pl cs x = some e) : a.eval x = e.ev env := by
  cases x with
  | tmp t =>
    simp only [valOf] at hv
    split at hv
    · rename_i hg
      injection hv with hv
      subst hv
      simp [Act.eval, h.glob t hg, Ex.ev]
    · have := h.sig _ (look_mem hv)
      simp only at this
      simp [Act.eval, this]
  | const v => simp only [valOf, Option.some.injEq] at hv; subst hv; rfl
  | global g => simp only [valOf, Option.some.injEq] at hv; subst hv; rfl
  | func f => simp only [valOf, Option.some.injEq] at hv; subst hv; rfl
theorem subst_spec : ∀ {l : List Operand} {ss : List (Nat × Ex)}, subst pl cs l = some ss →
    (∀ t e, look ss t = some e → valOf pl cs (.tmp t) = some e) ∧ (∀ t, .tmp t ∈ l → look ss t = none → valOf pl cs (.tmp t) = some (.t t))
  | [], ss, h => by
    simp only [subst, Option.some.injEq] at h
    subst h
    exact ⟨fun t e h => (by cases h), fun t h => (by cases h)⟩
  | x :: r, ss, h => by
    cases x with
    | tmp t =>
      simp only [subst] at h
      cases hv : valOf pl cs (.tmp t) with
      | none => simp [hv] at h
      | some e =>
        cases hr : subst pl cs r with
        | none => simp [hv, hr] at h
        | some ss' =>
          obtain ⟨i1, i2⟩ := subst_spec hr
          simp only [hv, hr, Option.some.injEq] at h
          have gen : ∀ e', e = e' → ss = (t, e') :: ss' → (∀ u e, look ss u = some e → valOf pl cs (.tmp u) = some e) ∧ (∀ u, .tmp u ∈ (.tmp t :: r) → look ss u = none → valOf pl cs (.tmp u) = some (.t u)) := by
            intro e' he hs
            subst hs
            refine ⟨fun u e2 hu => ?_, fun u hu hn => ?_⟩
            · simp only [look] at hu
              split at hu
              · rename_i htu
                injection hu with hu
                subst htu hu
                rw [hv, he]
              · exact i1 _ _ hu
            · simp only [look] at hn
              split at hn
              · cases hn
              · rename_i htu
                rcases List.mem_cons.1 hu with h1 | h1
                · injection h1 with h1; exact absurd h1.symm htu
                · exact i2 u h1 hn
          cases e with
          | t n =>
            simp only at h
            split at h
            · rename_i hnt
              subst hnt h
              refine ⟨i1, fun u hu hn => ?_⟩
              rcases List.mem_cons.1 hu with h1 | h1
              · injection h1 with h1; subst h1; exact hv
              · exact i2 u h1 hn
            · exact gen _ rfl h.symm
          | c v => exact gen _ rfl h.symm
          | s b o n => exact gen _ rfl h.symm
          | k b o => exact gen _ rfl h.symm
    | const v =>
      obtain ⟨i1, i2⟩ := subst_spec (l := r) (by simpa only [subst] using h)
      exact ⟨i1, fun u hu hn => (List.mem_cons.1 hu).elim (fun h1 => by cases h1) fun h1 => i2 u h1 hn⟩
    | global v =>
      obtain ⟨i1, i2⟩ := subst_spec (l := r) (by simpa only [subst] using h)
      exact ⟨i1, fun u hu hn => (List.mem_cons.1 hu).elim (fun h1 => by cases h1) fun h1 => i2 u h1 hn⟩
    | func v =>
      obtain ⟨i1, i2⟩ := subst_spec (l := r) (by simpa only [subst] using h)
      exact ⟨i1, fun u hu hn => (List.mem_cons.1 hu).elim (fun h1 => by cases h1) fun h1 => i2 u h1 hn⟩
theorem Sim.rho (h : Sim pl ds cs env X w0 a w) {l : List Operand} {ss : List (Nat × Ex)} (hs : subst pl cs l = some ss) :
    ∀ x, x ∈ l → a.eval x = Eng.rho env ss x := by
  obtain ⟨i1, i2⟩ := subst_spec hs
  intro x hx
  cases x with
  | tmp t =>
    simp only [Eng.rho]
    cases hl : look ss t with
    | some e => exact h.eval (i1 t e hl)
    | none => exact h.eval (i2 t hx hl)
  | const v => rfl
  | global g => rfl
  | func f => rfl
theorem execOp_mk (ρ : Operand → Value) (o : Oper) : execOp ρ o = execOp ρ (mkOp o.op o.type) := by
  cases o; rfl
theorem noSel_spec {op : Op} (h : noSel op = true) : ∀ cs b, op ≠ .select cs b := by
  intro cs b e
  subst e
  cases h
theorem Sim.exec (h : Sim pl ds cs env X w0 a w) {o : Oper} {ss : List (Nat × Ex)} (hs : subst pl cs o.op.operands.toList = some ss) (hn : noSel o.op = true) :
    execOp a.eval o = execOp (Eng.rho env ss) (mkOp o.op o.type) := by
  rw [execOp_congr o (noSel_spec hn) fun x hx => h.rho hs x (by simpa using hx)]
  exact execOp_mk _ _
theorem Sim.step (h : Sim pl ds cs env X w0 a w) {X' : XS} {w0' w' : World} (hx : Kp X' w0' w') (hX : ∀ k, X' k → k < w'.heap.size)
    (hb : ∀ k, k < w.heap.size → ¬ X k → w'.heap[k]? = w.heap[k]? ∧ ¬ X' k) : Sim pl ds cs env X' w0' a w' where
  size := h.size
  defers := h.defers
  pin := h.pin
  ext := hx
  xlt := hX
  glob := h.glob
  sig := h.sig
  box := fun b n hn cells hc => by
    obtain ⟨k, ty, h1, h2, h3, h4⟩ := h.box b n hn cells hc
    obtain ⟨e1, e2⟩ := hb k (Array.getElem?_eq_some_iff.1 h2).1 h4
    exact ⟨k, ty, h1, e1.trans h2, h3, e2⟩
  inj := h.inj
  conv := h.conv
  live := h.live
  ptr := h.ptr
theorem Sim.grew (h : Sim pl ds cs env X w0 a w) {w' : World} (hx : Ext w w') : Sim pl ds cs env X w0 a w' :=
  h.step (h.ext.trans (hx.kp h.xlt)) (fun k hk => Nat.lt_of_lt_of_le (h.xlt k hk) hx.size) fun _ hk hX => ⟨hx.block hk, hX⟩
theorem Sim.stepped (h : Sim pl ds cs env X w0 a w) {m : Bool} {w' : World} (hs : Step m X w w') : Sim pl ds cs env (grow X w w') w' a w' :=
  h.step (Kp.refl _ _) (fun k hk => hk.elim (fun hX => Nat.lt_of_lt_of_le (h.xlt k hX) hs.fr.size) (·.2))
    fun k hk hX => ⟨hs.fr.block k hk hX, fun hg => hg.elim hX fun hg => by omega⟩
theorem box_ne {s d : Nat} {n : Nat} (hs : look pl.boxes s = some n) (hd : look pl.boxes d = none) : s ≠ d := by
  rintro rfl; rw [hs] at hd; cases hd
theorem Sim.bind (h : Sim pl ds cs env X w0 a w) {d : Nat} (hd : pl.plainDst d = true) (v : Value) (hmk : ∀ p, p ∈ ds.pins → p.1 ≠ d) :
    Sim pl ds (cs.bind pl d) (upd env d v) X w0 (a.put (some d) v) w := by
  obtain ⟨hlt, hnb, hnd⟩ := plainDst_spec hd
  have hsz : d < a.tmps.size := by rw [h.size]; exact hlt
  have hkill : ∀ p, p ∈ (cs.kill d).sig → (a.put (some d) v).tmps[p.1]? = some (p.2.ev (upd env d v)) := by
    intro p hp
    simp only [CS.kill, List.mem_filter, Bool.and_eq_true, bne_iff_ne, ne_eq, Bool.not_eq_true'] at hp
    rw [put_ne _ _ _ _ hp.2.1, ev_upd hp.2.2]
    exact h.sig p hp.1
  have hptr : ∀ p, p ∈ (cs.kill d).ptrs → (∃ n, look pl.boxes p.b = some n) ∧ (gOK (upd env d v) p.g → isA (upd env d v p.b) = true ∧ ∃ k, (a.put (some d) v).tmps[p.b]? = some (ptrV k 0) ∧ (a.put (some d) v).tmps[p.s]? = some (ptrV k p.off)) := by
    intro p hp
    simp only [CS.kill, List.mem_filter, Bool.and_eq_true, bne_iff_ne, ne_eq] at hp
    obtain ⟨hp0, ⟨hb, hs⟩, hg⟩ := hp
    obtain ⟨e1, e2⟩ := h.ptr p hp0
    refine ⟨e1, fun hgo => ?_⟩
    have hgo' : gOK env p.g := by
      cases hpg : p.g with
      | none => trivial
      | some x =>
        obtain ⟨g, want⟩ := x
        rw [hpg] at hgo hg
        simp only [gOK] at hgo ⊢
        rwa [upd_ne _ _ (by simpa using hg)] at hgo
    obtain ⟨e3, k, e4, e5⟩ := e2 hgo'
    rw [upd_ne _ _ hb, put_ne _ _ _ _ hb, put_ne _ _ _ _ hs]
    exact ⟨e3, k, e4, e5⟩
  have hsig : ∀ p, p ∈ (cs.bind pl d).sig → (a.put (some d) v).tmps[p.1]? = some (p.2.ev (upd env d v)) := by
    intro p hp
    simp only [CS.bind] at hp
    split at hp
    · exact hkill p hp
    · rcases List.mem_cons.1 hp with rfl | hp
      · simp [put_get _ _ _ _ hsz, Ex.ev, upd_same]
      · exact hkill p hp
  have hpt : (cs.bind pl d).ptrs = (cs.kill d).ptrs := by simp only [CS.bind]; split <;> rfl
  have hlv : (cs.bind pl d).live = cs.live := by simp only [CS.bind]; split <;> rfl
  exact {
    size := by simp [Act.put, h.size]
    defers := h.defers
    pin := fun p hp => ⟨by rw [put_ne _ _ _ _ (hmk p hp)]; exact (h.pin p hp).1, (h.pin p hp).2⟩
    ext := h.ext
    xlt := h.xlt
    glob := fun s hs => by
      rw [put_get _ _ _ _ hsz]
      split
      · rename_i e; subst e; rw [upd_same]
      · rename_i e; rw [upd_ne _ _ e]; exact h.glob s hs
    sig := hsig
    box := fun b n hn cells hc => by
      have hbd := box_ne hn hnb
      rw [upd_ne _ _ hbd] at hc
      rw [put_ne _ _ _ _ hbd]
      exact h.box b n hn cells hc
    inj := fun b b' n n' hb hb' h1 h2 k h3 h4 => by
      have hbd := box_ne hb hnb
      have hbd' := box_ne hb' hnb
      rw [upd_ne _ _ hbd] at h1
      rw [upd_ne _ _ hbd'] at h2
      rw [put_ne _ _ _ _ hbd] at h3
      rw [put_ne _ _ _ _ hbd'] at h4
      exact h.inj b b' n n' hb hb' h1 h2 k h3 h4
    conv := fun b n hb k hk => by
      have hbd := box_ne hb hnb
      rw [put_ne _ _ _ _ hbd] at hk
      rw [upd_ne _ _ hbd]
      exact h.conv b n hb k hk
    live := fun b hb => by
      rw [hlv] at hb
      obtain ⟨⟨n, hn⟩, hl⟩ := h.live b hb
      rw [upd_ne _ _ (box_ne hn hnb)]
      exact ⟨⟨n, hn⟩, hl⟩
    ptr := by rw [hpt]; exact hptr }
theorem Sim.lives (h : Sim pl ds cs env X w0 a w) {nd : List Nat} (hn : ∀ b, b ∈ nd → (∃ n, look pl.boxes b = some n) ∧ isA (env b) = true) :
    Sim pl ds (cs.lives nd) env X w0 a w :=
  { h with live := fun b hb => (List.mem_append.1 hb).elim (hn b) (h.live b) }
theorem Sim.other (h : Sim pl ds cs env X w0 a w) {d : Nat} (hlt : d < pl.n) (hnb : look pl.boxes d = none) (hng : pl.isGlob d = false) (v : Value) {cs' : CS}
    (hsig : ∀ p, p ∈ cs'.sig → (a.put (some d) v).tmps[p.1]? = some (p.2.ev env)) (hlv : cs'.live = cs.live)
    (hptr : ∀ p, p ∈ cs'.ptrs → (∃ n, look pl.boxes p.b = some n) ∧ (gOK env p.g → isA (env p.b) = true ∧ ∃ k, (a.put (some d) v).tmps[p.b]? = some (ptrV k 0) ∧ (a.put (some d) v).tmps[p.s]? = some (ptrV k p.off))) :
    Sim pl ds cs' env X w0 (a.put (some d) v) w where
  size := by simp [Act.put, h.size]
  defers := h.defers
  pin := fun p hp => by
    obtain ⟨h1, h2⟩ := h.pin p hp
    refine ⟨?_, h2⟩
    have hne : p.1 ≠ d := fun e => by
      rcases h2 with ⟨n, _, hn, _⟩ | hg
      · rw [e, hnb] at hn; cases hn
      · rw [e, hng] at hg; cases hg
    rw [put_ne _ _ _ _ hne]; exact h1
  ext := h.ext
  xlt := h.xlt
  glob := fun s hs => by
    rw [put_ne _ _ _ _ (by rintro rfl; rw [hs] at hng; cases hng)]
    exact h.glob s hs
  sig := hsig
  box := fun b n hn cells hc => by
    rw [put_ne _ _ _ _ (box_ne hn hnb)]
    exact h.box b n hn cells hc
  inj := fun b b' n n' hb hb' h1 h2 k h3 h4 => by
    rw [put_ne _ _ _ _ (box_ne hb hnb)] at h3
    rw [put_ne _ _ _ _ (box_ne hb' hnb)] at h4
    exact h.inj b b' n n' hb hb' h1 h2 k h3 h4
  conv := fun b n hb k hk => by
    rw [put_ne _ _ _ _ (box_ne hb hnb)] at hk
    exact h.conv b n hb k hk
  live := fun b hb => h.live b (hlv ▸ hb)
  ptr := hptr
theorem Sim.note (h : Sim pl ds cs env X w0 a w) {d : Nat} (hd : pl.plainDst d = true) (hng : pl.isGlob d = false) (e : Ex) :
    Sim pl ds (cs.note d e) env X w0 (a.put (some d) (e.ev env)) w := by
  obtain ⟨hlt, hnb, hnd⟩ := plainDst_spec hd
  have hsz : d < a.tmps.size := by rw [h.size]; exact hlt
  refine h.other hlt hnb hng _ ?_ rfl ?_
  · intro p hp
    simp only [CS.note, List.mem_cons, List.mem_filter, bne_iff_ne, ne_eq] at hp
    rcases hp with rfl | ⟨hp, hne⟩
    · simp [put_get _ _ _ _ hsz]
    · rw [put_ne _ _ _ _ hne]; exact h.sig p hp
  · intro p hp
    simp only [CS.note, List.mem_filter, bne_iff_ne, ne_eq] at hp
    obtain ⟨⟨n, hn⟩, e2⟩ := h.ptr p hp.1
    refine ⟨⟨n, hn⟩, fun hg => ?_⟩
    obtain ⟨e3, k, e4, e5⟩ := e2 hg
    refine ⟨e3, k, ?_, ?_⟩
    · rw [put_ne _ _ _ _ (box_ne hn hnb)]; exact e4
    · rw [put_ne _ _ _ _ hp.2]; exact e5
theorem Sim.setTo (h : Sim pl ds cs env X w0 a w) {d : Nat} (hd : pl.plainDst d = true) (e : Ex) {pan : List PanicEntry → Env → World → XS → Prop} {next : Env → World → XS → Prop}
    (hn : denL P pan next (Eng.setTo pl cs d e).1 env w0 X) (hmk : ∀ b, b ∈ mkL (Eng.setTo pl cs d e).1 → ∀ p, p ∈ ds.pins → p.1 ≠ b) : ∃ env', Sim pl ds (Eng.setTo pl cs d e).2 env' X w0 (a.put (some d) (e.ev env)) w ∧ next env' w0 X := by
  unfold Eng.setTo at hn hmk ⊢
  split
  · rename_i hg
    rw [if_pos hg] at hn hmk
    exact ⟨_, h.bind hd _ (hmk d (by simp [mkL, TI.mk1])), hn⟩
  · rename_i hg
    rw [if_neg hg] at hn
    have hng : pl.isGlob d = false := by
      cases hx : pl.isGlob d with
      | false => rfl
      | true => simp [hx] at hg
    exact ⟨env, h.note hd hng e, hn⟩
theorem Sim.derive (h : Sim pl ds cs env X w0 a w) {d b off : Nat} {g : Option (Nat × Bool)} (hlt : d < pl.n) (hnb : look pl.boxes d = none) (hder : pl.der.contains d = true)
    (v : Value) (hb : ∃ n, look pl.boxes b = some n) (hv : gOK env g → isA (env b) = true ∧ ∃ k, a.tmps[b]? = some (ptrV k 0) ∧ v = ptrV k off)
 :
    Sim pl ds (cs.point d b off g) env X w0 (a.put (some d) v) w := by
  have hsz : d < a.tmps.size := by rw [h.size]; exact hlt
  have hng : pl.isGlob d = false := by
    cases hx : pl.isGlob d with
    | false => rfl
    | true => have := (isGlob_spec hx).2.2; rw [hder] at this; cases this
  refine h.other hlt hnb hng _ ?_ rfl ?_
  · intro p hp
    simp only [CS.point, List.mem_filter, bne_iff_ne, ne_eq] at hp
    rw [put_ne _ _ _ _ hp.2]; exact h.sig p hp.1
  · intro p hp
    rcases List.mem_cons.1 hp with rfl | hp
    · obtain ⟨n, hn⟩ := hb
      refine ⟨⟨n, hn⟩, fun hg => ?_⟩
      obtain ⟨e1, k, e2, e3⟩ := hv hg
      refine ⟨e1, k, ?_, ?_⟩
      · rw [put_ne _ _ _ _ (box_ne hn hnb)]; exact e2
      · simp [put_get _ _ _ _ hsz, e3]
    · simp only [List.mem_filter, bne_iff_ne, ne_eq] at hp
      obtain ⟨⟨n, hn⟩, e2⟩ := h.ptr p hp.1
      refine ⟨⟨n, hn⟩, fun hg => ?_⟩
      obtain ⟨e3, k, e4, e5⟩ := e2 hg
      refine ⟨e3, k, ?_, ?_⟩
      · rw [put_ne _ _ _ _ (box_ne hn hnb)]; exact e4
      · rw [put_ne _ _ _ _ hp.2]; exact e5
theorem kill_sig {d : Nat} {p : Nat × Ex} (hp : p ∈ (cs.kill d).sig) : p ∈ cs.sig ∧ p.1 ≠ d ∧ p.2.over d = false := by
  simpa [CS.kill, List.mem_filter] using hp
theorem kill_ptr {d : Nat} {p : Ptr} (hp : p ∈ (cs.kill d).ptrs) : p ∈ cs.ptrs ∧ p.b ≠ d ∧ p.s ≠ d ∧ (∀ v, gOK (upd env d v) p.g → gOK env p.g) := by
  simp only [CS.kill, List.mem_filter, Bool.and_eq_true, bne_iff_ne, ne_eq] at hp
  obtain ⟨hp0, ⟨hb, hs⟩, hg⟩ := hp
  refine ⟨hp0, hb, hs, fun v hgo => ?_⟩
  cases hpg : p.g with
  | none => trivial
  | some x =>
    obtain ⟨g, want⟩ := x
    rw [hpg] at hgo hg
    simp only [gOK] at hgo ⊢
    rwa [upd_ne _ _ (by simpa using hg)] at hgo
theorem Sim.newBox (h : Sim pl ds cs env X w0 a w) {d sz : Nat} (hlt : d < pl.n) (hb : look pl.boxes d = some sz) (cells : Array Value) (hsz : cells.size = sz) (ty : TypeId) (hmk : ∀ p, p ∈ ds.pins → p.1 ≠ d) :
    Sim pl ds ((cs.kill d).lives [d]) (upd env d (.agg cells)) X w0 (a.put (some d) (ptrV w.heap.size 0)) (w.alloc (.cells cells ty)) := by
  have hd : d < a.tmps.size := by rw [h.size]; exact hlt
  have hg := h.grew (Ext.alloc w (.cells cells ty))
  have fresh : ∀ b n c, look pl.boxes b = some n → env b = .agg c → a.tmps[b]? ≠ some (ptrV w.heap.size 0) := by
    intro b n c hn hc e
    obtain ⟨k, ty', h1, h2, _, _⟩ := h.box b n hn c hc
    rw [h1] at e
    have hk : k = w.heap.size := by simpa [ptrV] using e
    subst hk
    rw [Array.getElem?_eq_none (Nat.le_refl _)] at h2
    cases h2
  exact {
    size := by simp [Act.put, h.size]
    defers := h.defers
    pin := fun p hp => ⟨by rw [put_ne _ _ _ _ (hmk p hp)]; exact (h.pin p hp).1, (h.pin p hp).2⟩
    ext := hg.ext
    xlt := hg.xlt
    glob := fun s hs => by
      have hne : s ≠ d := fun e => by subst e; have := (isGlob_spec hs).2.1; rw [hb] at this; cases this
      rw [put_ne _ _ _ _ hne, upd_ne _ _ hne]
      exact h.glob s hs
    sig := fun p hp => by
      obtain ⟨h1, h2, h3⟩ := kill_sig hp
      rw [put_ne _ _ _ _ h2, ev_upd h3]
      exact h.sig p h1
    box := fun b n hn c hc => by
      by_cases hbd : b = d
      · subst hbd
        rw [upd_same] at hc
        injection hc with hc
        subst hc
        rw [hb] at hn
        injection hn with hn
        refine ⟨w.heap.size, ty, by simp [put_get _ _ _ _ hd], heap_alloc_new w _, by omega, fun hX => ?_⟩
        exact absurd (h.xlt _ hX) (by omega)
      · rw [upd_ne _ _ hbd] at hc
        rw [put_ne _ _ _ _ hbd]
        exact hg.box b n hn c hc
    inj := fun b b' n n' hn hn' h1 h2 k h3 h4 => by
      obtain ⟨c, hc⟩ := isA_iff.1 h1
      obtain ⟨c', hc'⟩ := isA_iff.1 h2
      by_cases hbd : b = d <;> by_cases hbd' : b' = d
      · rw [hbd, hbd']
      · subst hbd
        rw [put_get _ _ _ _ hd, if_pos rfl] at h3
        rw [put_ne _ _ _ _ hbd'] at h4
        rw [upd_ne _ _ hbd'] at hc'
        rw [← h3] at h4
        exact absurd h4 (fresh b' n' c' hn' hc')
      · subst hbd'
        rw [put_get _ _ _ _ hd, if_pos rfl] at h4
        rw [put_ne _ _ _ _ hbd] at h3
        rw [upd_ne _ _ hbd] at hc
        rw [← h4] at h3
        exact absurd h3 (fresh b n c hn hc)
      · rw [upd_ne _ _ hbd] at h1
        rw [upd_ne _ _ hbd'] at h2
        rw [put_ne _ _ _ _ hbd] at h3
        rw [put_ne _ _ _ _ hbd'] at h4
        exact h.inj b b' n n' hn hn' h1 h2 k h3 h4
    conv := fun b n hn k hk => by
      by_cases hbd : b = d
      · subst hbd; rw [upd_same]; rfl
      · rw [put_ne _ _ _ _ hbd] at hk
        rw [upd_ne _ _ hbd]
        exact h.conv b n hn k hk
    live := fun b hb' => by
      simp only [CS.lives, List.cons_append, List.nil_append, List.mem_cons] at hb'
      rcases hb' with rfl | hb'
      · exact ⟨⟨sz, hb⟩, by rw [upd_same]; rfl⟩
      · obtain ⟨e1, e2⟩ := h.live b hb'
        refine ⟨e1, ?_⟩
        by_cases hbd : b = d
        · subst hbd; rw [upd_same]; rfl
        · rw [upd_ne _ _ hbd]; exact e2
    ptr := fun p hp => by
      obtain ⟨h1, h2, h3, h4⟩ := kill_ptr (env := env) hp
      obtain ⟨e1, e2⟩ := h.ptr p h1
      refine ⟨e1, fun hgo => ?_⟩
      obtain ⟨e3, k, e4, e5⟩ := e2 (h4 _ hgo)
      rw [upd_ne _ _ h2, put_ne _ _ _ _ h2, put_ne _ _ _ _ h3]
      exact ⟨e3, k, e4, e5⟩ }
theorem Sim.store (h : Sim pl ds cs env X w0 a w) {b n k : Nat} {ty : TypeId} {cells cells' : Array Value} (hb : look pl.boxes b = some n) (hc : env b = .agg cells)
    (ht : a.tmps[b]? = some (ptrV k 0)) (hk : w.heap[k]? = some (.cells cells ty (0, 0))) (hX : ¬ X k) (hsz : cells'.size = n) {w' : World} (hw : Fr (· = k) w w') (hk' : w'.heap[k]? = some (.cells cells' ty (0, 0))) :
    Sim pl ds (cs.killBox b) (upd env b (.agg cells')) X w0 a w' := by
  have hA : isA (env b) = true := by rw [hc]; rfl
  exact {
    size := h.size
    defers := h.defers
    pin := h.pin
    ext := h.ext.trans (hw.kp fun j hj => ⟨h.xlt j hj, fun e => by subst e; exact hX hj⟩)
    xlt := fun j hj => Nat.lt_of_lt_of_le (h.xlt j hj) hw.size
    glob := fun s hs => by
      have hne : s ≠ b := fun e => by subst e; have := (isGlob_spec hs).2.1; rw [hb] at this; cases this
      rw [upd_ne _ _ hne]
      exact h.glob s hs
    sig := fun p hp => by
      simp only [CS.killBox, List.mem_filter, Bool.not_eq_true'] at hp
      rw [ev_upd hp.2]
      exact h.sig p hp.1
    box := fun b' n' hn' c hc' => by
      by_cases hbd : b' = b
      · subst hbd
        rw [upd_same] at hc'
        injection hc' with hc'
        subst hc'
        rw [hb] at hn'
        injection hn' with hn'
        exact ⟨k, ty, ht, hk', by omega, hX⟩
      · rw [upd_ne _ _ hbd] at hc'
        obtain ⟨k2, ty2, h1, h2, h3, h4⟩ := h.box b' n' hn' c hc'
        have hkk : k2 ≠ k := fun e => by
          subst e
          exact hbd (h.inj b' b n' n hn' hb (by rw [hc']; rfl) hA k2 h1 ht)
        exact ⟨k2, ty2, h1, (hw.block k2 (Array.getElem?_eq_some_iff.1 h2).1 hkk).trans h2, h3, h4⟩
    inj := fun b1 b2 n1 n2 hn1 hn2 h1 h2 j h3 h4 => by
      have f : ∀ b', isA (upd env b (.agg cells') b') = true → isA (env b') = true := fun b' hh => by
        by_cases e : b' = b
        · subst e; exact hA
        · rwa [upd_ne _ _ e] at hh
      exact h.inj b1 b2 n1 n2 hn1 hn2 (f b1 h1) (f b2 h2) j h3 h4
    conv := fun b' n' hn' j hj => by
      by_cases e : b' = b
      · subst e; rw [upd_same]; rfl
      · rw [upd_ne _ _ e]; exact h.conv b' n' hn' j hj
    live := fun b' hb' => by
      obtain ⟨e1, e2⟩ := h.live b' hb'
      refine ⟨e1, ?_⟩
      by_cases e : b' = b
      · subst e; rw [upd_same]; rfl
      · rwa [upd_ne _ _ e]
    ptr := fun p hp => by
      obtain ⟨e1, e2⟩ := h.ptr p hp
      refine ⟨e1, fun hg => ?_⟩
      have hg' : gOK env p.g := by
        cases hpg : p.g with
        | none => trivial
        | some x =>
          obtain ⟨g, want⟩ := x
          rw [hpg] at hg
          simp only [gOK] at hg ⊢
          by_cases e : g = b
          · subst e; rw [upd_same] at hg; cases hg
          · rwa [upd_ne _ _ e] at hg
      obtain ⟨e3, k2, e4, e5⟩ := e2 hg'
      refine ⟨?_, k2, e4, e5⟩
      by_cases e : p.b = b
      · rw [e, upd_same]; rfl
      · rwa [upd_ne _ _ e] }
end
end Go.Eng
namespace Go.Eng
section
variable {P : Program}
theorem addr_add (k o n : Nat) : (⟨k, o, none⟩ : Addr).add n = ⟨k, o + n, none⟩ := by
  unfold Addr.add; split <;> simp_all
theorem run_fieldAt {S f fo sz : Nat} (h : fieldInfo P S f = some (fo, sz)) (hz : sz ≠ 0) (k off : Nat) (w : World) :
    (Instr.fieldAt S (ptrV k off) f).run P w = .ok (ptrV k (off + fo)) w := by
  unfold fieldInfo at h
  split at h
  · rename_i fs hu
    cases hf : fs[f]? with
    | none => simp [hf] at h
    | some x =>
      cases hi : P.info? x.type with
      | none => simp [hf, hi] at h
      | some i =>
        simp only [hf, hi, Option.bind_some, Option.map_some, Option.some.injEq, Prod.mk.injEq] at h
        obtain ⟨h1, h2⟩ := h
        subst h1 h2
        simp [Instr.fieldAt, run_underlying hu, hf, Instr.sureAddr, ptrV, fieldPlace, sizeOf, typeInfo, hi, hz, addr_add]
  · cases h
theorem cell_of_block {w : World} {k : Nat} {cells : Array Value} {ty : TypeId} (h : w.heap[k]? = some (.cells cells ty (0, 0))) (i : Nat) : w.cell? ⟨k, i, none⟩ = cells[i]? := by
  simp [World.cell?, h]
theorem run_loadAt {t : Nat} {ag : Bool} {sz : Nat} (h : tyInfo P t = some (ag, sz)) (hag : (ag || sz == 1) = true) {w : World} {k : Nat} {cells : Array Value} {ty : TypeId}
    (hk : w.heap[k]? = some (.cells cells ty (0, 0))) (off : Nat) (hl : off + sz ≤ cells.size) :
    (Instr.loadAt t (ptrV k off)).run P w = .ok (if ag then subOf (.agg cells) off sz else cellOf (.agg cells) off) w := by
  unfold tyInfo at h
  split at h
  · rename_i d i hu hi
    simp only [Option.some.injEq, Prod.mk.injEq] at h
    obtain ⟨h1, h2⟩ := h
    subst h2
    have hagg : (isAgg t).run P w = .ok ag w := by
      subst h1
      cases d <;> simp [isAgg, run_underlying hu]
    cases ag with
    | true =>
      have hc : ∀ j v, ((cells.toList.drop off).take i.size)[j]? = some v → w.cell? ((⟨k, off, none⟩ : Addr).add j) = some v := by
        intro j v hj
        rw [addr_add, cell_of_block hk]
        rw [List.getElem?_take] at hj
        split at hj
        · rw [List.getElem?_drop] at hj
          simpa using hj
        · cases hj
      have hlen : ((cells.toList.drop off).take i.size).length = i.size := by
        simp; omega
      have hr := run_loadCells_list (P := P) w ⟨k, off, none⟩ _ hc
      rw [hlen] at hr
      simp [Instr.loadAt, Instr.sureAddr, ptrV, loadVar, hagg, sizeOf, typeInfo, hi, hr, subOf, Value.cells]
    | false =>
      simp only [Bool.false_or, beq_iff_eq] at hag
      have hlt : off < cells.size := by omega
      have hc : w.cell? ⟨k, off, none⟩ = some cells[off] := by rw [cell_of_block hk]; simp [hlt]
      simp [Instr.loadAt, Instr.sureAddr, ptrV, loadVar, hagg, hc, cellOf, Value.cells, hlt]
  · cases h
theorem one_eq (v : Value) : one v = v.oneCell' := by cases v <;> rfl
theorem one_cells {v : Value} (h : one v = true) : v.cells = #[v] := by cases v <;> first | rfl | cases h
theorem tyInfo_size {t : Nat} {ag : Bool} {sz : Nat} (h : tyInfo P t = some (ag, sz)) : (P.info? t).map (·.size) = some sz := by
  unfold tyInfo at h
  split at h
  · rename_i d i hu hi
    simp only [Option.some.injEq, Prod.mk.injEq] at h
    simp [hi, h.2]
  · cases h
theorem run_storeAt {t sz : Nat} (h : (P.info? t).map (·.size) = some sz) {w : World} {k : Nat} {cells : Array Value} {ty : TypeId}
    (hk : w.heap[k]? = some (.cells cells ty (0, 0))) (off : Nat) (hl : off + sz ≤ cells.size) (v : Value) (hv : v.cells.size = sz) (h1 : v.cells.toList.all one = true) :
    (Instr.storeAt t (ptrV k off) v).run P w = .ok () (w.setRow k (setL cells.toList off v.cells.toList).toArray) := by
  cases hi : P.info? t with
  | none => simp [hi] at h
  | some i =>
    simp only [hi, Option.map_some, Option.some.injEq] at h
    have hst := run_storeCells_at P k off ty v.cells.toList 0 cells w hk (by simpa [hv] using hl) (fun x hx => by
      have := List.all_eq_true.1 h1 x hx
      rwa [one_eq] at this)
    simp only [Nat.add_zero] at hst
    simp [Instr.storeAt, Instr.sureAddr, ptrV, storeVar, sizeOf, typeInfo, hi, h, hv, hst, setL]
end
theorem fr_setRow {w : World} {k : Nat} {cells cells' : Array Value} {ty : TypeId} (hk : w.heap[k]? = some (.cells cells ty (0, 0))) :
    Fr (· = k) w (w.setRow k cells') ∧ (w.setRow k cells').heap[k]? = some (.cells cells' ty (0, 0)) := by
  refine ⟨⟨rfl, rfl, rfl, by simp [World.setRow], fun j _ hj => ?_⟩, setRow_heap w k cells cells' ty (0, 0) hk⟩
  simp only [World.setRow, Array.getElem?_modify]
  rw [if_neg (fun e => hj e.symm)]
theorem len_setL {l vs : List Value} {off : Nat} (h : off + vs.length ≤ l.length) : (setL l off vs).length = l.length := by
  simp [setL]; omega
section
variable {P : Program} {pl : Plan} {ds : Bk} {cs : CS} {env : Env} {X : XS} {w0 w : World} {a : Act}
theorem findPtr_spec {og : Option (Nat × Bool)} : ∀ {l : List Ptr} {t b off : Nat}, findPtr og l t = some (b, off) → ∃ p, p ∈ l ∧ p.s = t ∧ p.b = b ∧ p.off = off ∧ (p.g = none ∨ p.g = og)
  | [], _, _, _, h => by cases h
  | p :: r, t, b, off, h => by
    simp only [findPtr] at h
    split at h
    · rename_i hs
      split at h
      · rename_i hg
        simp only [Option.some.injEq, Prod.mk.injEq] at h
        refine ⟨p, List.mem_cons_self .., hs, h.1, h.2, ?_⟩
        simpa using hg
      · cases h
    · obtain ⟨q, h1, h2⟩ := findPtr_spec h
      exact ⟨q, List.mem_cons_of_mem _ h1, h2⟩
theorem Sim.ptrOf (h : Sim pl ds cs env X w0 a w) {og : Option (Nat × Bool)} {x : Operand} {b off : Nat} {nd : List Nat} (hp : Eng.ptrOf pl cs og x = some (b, off, nd)) :
    (∃ n, look pl.boxes b = some n) ∧ (∀ b', b' ∈ nd → ∃ n, look pl.boxes b' = some n) ∧
    ((∀ b', b' ∈ nd → isA (env b') = true) → gOK env og → isA (env b) = true ∧ ∃ k, a.eval x = ptrV k off ∧ a.tmps[b]? = some (ptrV k 0)) := by
  cases x with
  | tmp t =>
    simp only [Eng.ptrOf] at hp
    split at hp
    · rename_i n hn
      simp only [Option.some.injEq, Prod.mk.injEq] at hp
      obtain ⟨rfl, rfl, hnd⟩ := hp
      refine ⟨⟨n, hn⟩, fun b' hb' => ?_, fun hl _ => ?_⟩
      · split at hnd <;> subst hnd
        · cases hb'
        · rcases List.mem_singleton.1 hb' with rfl
          exact ⟨n, hn⟩
      · have hA : isA (env t) = true := by
          split at hnd
          · rename_i hc
            exact (h.live t (by simpa using hc)).2
          · subst hnd
            exact hl t (List.mem_singleton.2 rfl)
        obtain ⟨c, hc⟩ := isA_iff.1 hA
        obtain ⟨k, ty, h1, _⟩ := h.box t n hn c hc
        exact ⟨hA, k, by simp [Act.eval, h1], h1⟩
    · split at hp
      · cases hf : findPtr og cs.ptrs t with
        | none => simp [hf] at hp
        | some q =>
          obtain ⟨b', off'⟩ := q
          simp only [hf, Option.map_some, Option.some.injEq, Prod.mk.injEq] at hp
          obtain ⟨rfl, rfl, rfl⟩ := hp
          obtain ⟨p, hp, hs, hb, ho, hg⟩ := findPtr_spec hf
          obtain ⟨e1, e2⟩ := h.ptr p hp
          subst hs hb ho
          refine ⟨e1, fun _ hb' => (by cases hb'), fun _ hgo => ?_⟩
          obtain ⟨e3, k, e4, e5⟩ := e2 (hg.elim (fun hg => by simp [hg, gOK]) (fun hg => by rw [hg]; exact hgo))
          exact ⟨e3, k, by simp [Act.eval, e5], e4⟩
      · cases hp
  | const v => cases hp
  | global g => cases hp
  | func f => cases hp
theorem denL_need {pan : List PanicEntry → Env → World → XS → Prop} {next : Env → World → XS → Prop} : ∀ (nd : List Nat) {l : List TI},
    denL P pan next (nd.map .need ++ l) env w X → (∀ b, b ∈ nd → isA (env b) = true) ∧ denL P pan next l env w X
  | [], _, h => ⟨fun _ hb => (by cases hb), h⟩
  | b :: nd, l, h => by
    obtain ⟨h1, h2⟩ : isA (env b) = true ∧ denL P pan next (nd.map .need ++ l) env w X := by simpa only [List.map_cons, List.cons_append, denL, denI, chk_iff] using h
    obtain ⟨h3, h4⟩ := denL_need nd h2
    refine ⟨fun b' hb' => ?_, h4⟩
    rcases List.mem_cons.1 hb' with rfl | hb'
    · exact h1
    · exact h3 b' hb'
theorem denL_append {pan : List PanicEntry → Env → World → XS → Prop} {next : Env → World → XS → Prop} : ∀ (l l' : List TI), denL P pan next (l ++ l') = denL P pan (denL P pan next l') l
  | [], _ => rfl
  | i :: l, l' => by
    funext env w X
    simp only [List.cons_append, denL, denL_append l l']
inductive Shape (P : Program) (pl : Plan) (cs : CS) (og : Option (Nat × Bool)) (m : Bool) (o : Oper) : CR → Prop
  | mv (x : Operand) (d : Nat) (e : Ex) (ho : o.op = .move x ∨ o.op = .assign x) (hd : o.dst = some d) (hv : valOf pl cs x = some e) (hp : pl.plainDst d = true) :
      Shape P pl cs og m o ⟨true, [], (setTo pl cs d e).1, (setTo pl cs d e).2, [], []⟩
  | ld (t : TypeId) (x : Operand) (d b off : Nat) (nd : List Nat) (ag : Bool) (sz bs : Nat) (ho : o.op = .load t x) (hd : o.dst = some d) (hx : Eng.ptrOf pl cs og x = some (b, off, nd))
      (ht : tyInfo P t = some (ag, sz)) (hb : look pl.boxes b = some bs) (hp : pl.plainDst d = true) (hl : off + sz ≤ bs) (ha : (ag || sz == 1) = true) :
      Shape P pl cs og m o ⟨true, nd, (setTo pl (cs.lives nd) d (if ag then .s b off sz else .k b off)).1, (setTo pl (cs.lives nd) d (if ag then .s b off sz else .k b off)).2, [b], []⟩
  | fa (S : TypeId) (x : Operand) (f d b off : Nat) (nd : List Nat) (fo sz : Nat) (ho : o.op = .fieldAddr S x f) (hd : o.dst = some d) (hx : Eng.ptrOf pl cs og x = some (b, off, nd))
      (hf : fieldInfo P S f = some (fo, sz)) (hder : pl.der.contains d = true) (hlt : d < pl.n) (hnb : look pl.boxes d = none) (hz : sz ≠ 0) :
      Shape P pl cs og m o ⟨true, nd, [], (cs.lives nd).point d b (off + fo) og, [], []⟩
  | rd (d : Nat) (ss : List (Nat × Ex)) (hd : o.dst = some d) (hs : subst pl cs o.op.operands.toList = some ss) (hn : noSel o.op = true) (hp : pl.plainDst d = true) :
      Shape P pl cs og m o ⟨true, [], [.rd d o.op o.type ss], cs.bind pl d, [], []⟩
  | eff (d : Nat) (ss : List (Nat × Ex)) (hd : o.dst = some d) (hs : subst pl cs o.op.operands.toList = some ss) (hn : noSel o.op = true) (hp : pl.plainDst d = true) :
      Shape P pl cs og m o ⟨false, [], [.eff (some d) o.op o.type ss m], cs.bind pl d, [], []⟩
  | act (ss : List (Nat × Ex)) (hd : o.dst = none) (hs : subst pl cs o.op.operands.toList = some ss) (hn : noSel o.op = true) :
      Shape P pl cs og m o ⟨false, [], [.eff none o.op o.type ss m], cs, [], []⟩
  | bx (t : TypeId) (x : Operand) (d sz : Nat) (e : Ex) (ag : Bool) (ho : o.op = .box t x) (hd : o.dst = some d) (hb : look pl.boxes d = some sz) (hv : valOf pl cs x = some e) (ht : tyInfo P t = some (ag, sz)) (hlt : d < pl.n) :
      Shape P pl cs og m o ⟨false, [], [if !ag && sz == 1 then .box1 d e else .box d sz e], (cs.kill d).lives [d], [], []⟩
  | al (t : TypeId) (d sz : Nat) (i : TypeInfo) (z : Value) (ag : Bool) (ho : o.op = .alloc t) (hd : o.dst = some d) (hb : look pl.boxes d = some sz) (hi : P.info? t = some i) (hz : i.zero = some z) (ht : tyInfo P t = some (ag, sz)) (hlt : d < pl.n) :
      Shape P pl cs og m o ⟨false, [], [if !ag && sz == 1 then .box1 d (.c z) else .box d sz (.c z)], (cs.kill d).lives [d], [], []⟩
  | st (t : TypeId) (x v : Operand) (b off : Nat) (nd : List Nat) (sz bs : Nat) (e : Ex) (ag : Bool) (ho : o.op = .store t x v) (hd : o.dst = none) (hx : Eng.ptrOf pl cs og x = some (b, off, nd))
      (hv : valOf pl cs v = some e) (ht : tyInfo P t = some (ag, sz)) (hb : look pl.boxes b = some bs) (hl : off + sz ≤ bs) :
      Shape P pl cs og m o ⟨false, nd, [if !ag && sz == 1 then .put1 b off e else if off == 0 && sz == bs then .fill b sz e else .put b off sz e], (cs.lives nd).killBox b, [], [b]⟩
theorem shape_real {m : Bool} {og : Option (Nat × Bool)} {o : Oper} {r : CR} (h : cReal P pl cs m o = some r) : Shape P pl cs og m o r := by
  unfold cReal at h
  split at h
  · cases h
  · rename_i ss hs
    split at h
    · cases h
    · rename_i hn
      simp only [Bool.not_eq_true', Bool.not_eq_false] at hn
      split at h
      · rename_i d hd
        split at h
        · cases h
        · rename_i hp
          simp only [Bool.not_eq_true', Bool.not_eq_false] at hp
          split at h <;> injection h with h <;> subst h
          · exact .rd d ss hd hs hn hp
          · exact .eff d ss hd hs hn hp
      · rename_i hd
        injection h with h
        subst h
        exact .act ss hd hs hn
theorem shape_box {m : Bool} {og : Option (Nat × Bool)} {o : Oper} {r : CR} {sz d t : Nat} {e : Ex} (h : cBox P pl cs sz t e d = some r)
    (k : ∀ ag, d < pl.n → tyInfo P t = some (ag, sz) → Shape P pl cs og m o ⟨false, [], [if !ag && sz == 1 then .box1 d e else .box d sz e], (cs.kill d).lives [d], [], []⟩) : Shape P pl cs og m o r := by
  unfold cBox at h
  split at h
  · rename_i ag s ht
    split at h
    · rename_i hc
      simp only [Bool.and_eq_true, decide_eq_true_eq, beq_iff_eq] at hc
      obtain ⟨h1, h2⟩ := hc
      subst h2
      injection h with h
      subst h
      exact k ag h1 ht
    · cases h
  · cases h
theorem shape_of {m : Bool} {og : Option (Nat × Bool)} {o : Oper} {r : CR} (h : cCore P pl cs og m o = some r) : Shape P pl cs og m o r := by
  unfold cCore at h
  split at h
  case h_1 x ho =>
    split at h
    · rename_i d e hd hv
      split at h
      · rename_i hp
        injection h with h
        subst h
        exact .mv x d e (.inl ho) hd hv hp
      · cases h
    · cases h
  case h_2 x ho =>
    split at h
    · rename_i d e hd hv
      split at h
      · rename_i hp
        injection h with h
        subst h
        exact .mv x d e (.inr ho) hd hv hp
      · cases h
    · cases h
  case h_3 t x ho =>
    split at h
    · rename_i d hd
      split at h
      · rename_i sz hb
        split at h
        · rename_i e hv
          exact shape_box h fun ag hlt ht => .bx t x d sz e ag ho hd hb hv ht hlt
        · cases h
      · exact shape_real h
    · cases h
  case h_4 t ho =>
    split at h
    · rename_i d hd
      split at h
      · rename_i sz hb
        split at h
        · rename_i z hz
          cases hi : P.info? t with
          | none => simp [hi] at hz
          | some i =>
            simp only [hi, Option.bind_some] at hz
            exact shape_box h fun ag hlt ht => .al t d sz i z ag ho hd hb hi hz ht hlt
        · cases h
      · exact shape_real h
    · cases h
  case h_5 S x f ho =>
    split at h
    · rename_i b off nd hx
      split at h
      · rename_i d fo sz hd hf
        split at h
        · rename_i hc
          simp only [Bool.and_eq_true, decide_eq_true_eq, Option.isNone_iff_eq_none, bne_iff_ne, ne_eq] at hc
          injection h with h
          subst h
          exact .fa S x f d b off nd fo sz ho hd hx hf hc.1.1.1 hc.1.1.2 hc.1.2 hc.2
        · cases h
      · cases h
    · exact shape_real h
  case h_6 t x ho =>
    split at h
    · rename_i b off nd hx
      split at h
      · rename_i d ag sz bs hd ht hb
        split at h
        · rename_i hc
          simp only [Bool.and_eq_true, decide_eq_true_eq] at hc
          injection h with h
          subst h
          exact .ld t x d b off nd ag sz bs ho hd hx ht hb hc.1.1 hc.1.2 hc.2
        · cases h
      · cases h
    · exact shape_real h
  case h_7 t x v ho =>
    split at h
    · rename_i b off nd hx
      split at h
      · rename_i e ag sz bs hd hv ht hb
        split at h
        · rename_i hc
          simp only [decide_eq_true_eq] at hc
          injection h with h
          subst h
          exact .st t x v b off nd sz bs e ag ho hd hx hv ht hb hc
        · cases h
      · cases h
    · exact shape_real h
  case h_8 => exact shape_real h
end
end Go.Eng
namespace Go.Eng
section
variable {P : Program} {pl : Plan} {ds : Bk} {cs : CS} {env : Env} {X : XS} {w0 w : World} {a : Act}
theorem Sim.zb (h : Sim pl ds cs env X w0 a w) {RB : List Nat} {k : Nat} (hz : ZB pl RB a k) : ¬ X k := by
  obtain ⟨b, n, hb, _, ht⟩ := hz
  obtain ⟨c, hc⟩ := isA_iff.1 (h.conv b n hb k ht)
  obtain ⟨k', ty, e1, _, _, e4⟩ := h.box b n hb c hc
  rw [ht] at e1
  have : k' = k := by simpa [ptrV] using e1.symm
  subst this
  exact e4
theorem Sim.kp0 (h : Sim pl ds cs env X w0 a w) {RB : List Nat} {w' : World} (hx : Fr (ZB pl RB a) w w') : Kp X w0 w' :=
  h.ext.trans (hx.kp fun k hk => ⟨h.xlt k hk, fun hz => h.zb hz hk⟩)
theorem Sim.blk (h : Sim pl ds cs env X w0 a w) {b n k : Nat} (hb : look pl.boxes b = some n) (ht : a.tmps[b]? = some (ptrV k 0)) : k < w.heap.size ∧ ¬ X k := by
  obtain ⟨c, hc⟩ := isA_iff.1 (h.conv b n hb k ht)
  obtain ⟨k', ty, e1, e2, _, e4⟩ := h.box b n hb c hc
  rw [ht] at e1
  have : k' = k := by simpa [ptrV] using e1.symm
  subst this
  exact ⟨(Array.getElem?_eq_some_iff.1 e2).1, e4⟩
theorem Sim.relB (h : Sim pl ds cs env X w0 a w) {sb : List Nat} {w' : World} (hx : Fr X w w') : RelB pl sb a w w' :=
  fun _ _ _ hb _ hk => hx.block _ (h.blk hb hk).1 (h.blk hb hk).2
theorem RelJ.of_ext {sb : List Nat} {a' : Act} {w' : World} (hx : Ext w w') (hz : ∀ b n, look pl.boxes b = some n → ∀ k, k < w.heap.size → a'.tmps[b]? = some (ptrV k 0) → a.tmps[b]? = some (ptrV k 0)) : RelJ pl sb a w a' w' :=
  fun _ _ => ⟨hx.fr _, fun k hk ⟨b, n, h1, h2, h3⟩ => ⟨b, n, h1, h2, hz b n h1 k hk h3⟩⟩
theorem RelJ.of_plain {sb : List Nat} {w' : World} {d : Option Nat} {v : Value} (hx : Ext w w') (hd : ∀ x, d = some x → look pl.boxes x = none) : RelJ pl sb a w (a.put d v) w' := by
  refine RelJ.of_ext hx fun b n hb k _ hk => ?_
  cases d with
  | none => exact hk
  | some x => rwa [put_ne _ _ _ _ (box_ne hb (hd x rfl))] at hk
theorem RelJ.sub {sb sb' : List Nat} {a' : Act} {w' : World} (h : RelJ pl sb a w a' w') (hs : ∀ b, b ∈ sb → b ∈ sb') : RelJ pl sb' a w a' w' :=
  fun RB hRB => h RB fun b hb => hRB b (hs b hb)
theorem shape_dst {P : Program} {m : Bool} {og : Option (Nat × Bool)} {o : Oper} {r : CR} (hs : Shape P pl cs og m o r) (hfl : r.fl = true) : ∀ x, o.dst = some x → look pl.boxes x = none := by
  have f : ∀ {d : Nat}, o.dst = some d → pl.plainDst d = true → ∀ x, o.dst = some x → look pl.boxes x = none := fun hd hp x hx => by
    rw [hd] at hx; injection hx with hx; subst hx; exact (plainDst_spec hp).2.1
  cases hs with
  | mv x d e ho hd hv hp => exact f hd hp
  | ld t x d b off nd ag sz bs ho hd hx ht hb hp hl ha => exact f hd hp
  | fa S x g d b off nd fo sz ho hd hx hf hder hlt hnb hz => intro y hy; rw [hd] at hy; injection hy with hy; subst hy; exact hnb
  | rd d ss hd hs hn hp => exact f hd hp
  | eff => cases hfl
  | act => cases hfl
  | bx => cases hfl
  | al => cases hfl
  | st => cases hfl
theorem shape_val {m : Bool} {og : Option (Nat × Bool)} {o : Oper} {r : CR} (hs : Shape P pl cs og m o r) (h : Sim pl ds cs env X w0 a w) (hg : gOK env og)
    (hl : ∀ b, b ∈ r.nd → isA (env b) = true) (hfl : r.fl = true) {pan : List PanicEntry → Env → World → XS → Prop} {next : Env → World → XS → Prop} (hd : denL P pan next r.l env w0 X) (hmk : ∀ b, b ∈ mkL r.l → ∀ p, p ∈ ds.pins → p.1 ≠ b) :
    ∃ v env', ((∀ wa, Fr (ZB pl r.rb a) w wa → (execOp a.eval o).run P wa = .ok (.value v) wa) ∧
      ∀ b, b ∈ r.rb → ∃ k n, look pl.boxes b = some n ∧ a.tmps[b]? = some (ptrV k 0) ∧ ∀ wa : World, wa.heap[k]? = w.heap[k]? → (execOp a.eval o).run P wa = .ok (.value v) wa) ∧ Sim pl ds r.cs env' X w0 (a.put o.dst v) w ∧ next env' w0 X := by
  cases hs with
  | mv x d e ho hdst hv hp =>
    obtain ⟨env', h1, h2⟩ := h.setTo hp e hd hmk
    refine ⟨e.ev env, env', ⟨fun wa _ => ?_, fun _ hb => by cases hb⟩, by rw [hdst]; exact h1, h2⟩
    have he := h.eval hv
    rcases ho with ho | ho <;> simp [execOp, ho, he]
  | ld t x d b off nd ag sz bs ho hdst hx ht hb hp hlt ha =>
    obtain ⟨⟨n, hn⟩, hnd, hk⟩ := h.ptrOf hx
    obtain ⟨hA, k, he, hk0⟩ := hk hl hg
    obtain ⟨cells, hc⟩ := isA_iff.1 hA
    obtain ⟨k', ty, e1, e2, e3, _⟩ := h.box b n hn cells hc
    have hkk : k' = k := by rw [hk0] at e1; simpa [ptrV] using e1.symm
    subst hkk
    have hbn : bs = n := by rw [hb] at hn; injection hn
    subst hbn
    have h' := h.lives (nd := nd) fun b' hb' => ⟨hnd b' hb', hl b' hb'⟩
    obtain ⟨env', h1, h2⟩ := h'.setTo hp _ hd hmk
    have hev : (if ag then Ex.s b off sz else Ex.k b off).ev env = if ag then subOf (.agg cells) off sz else cellOf (.agg cells) off := by
      cases ag <;> simp [Ex.ev, hc]
    have hrun : ∀ wa : World, wa.heap[k']? = w.heap[k']? → (execOp a.eval o).run P wa = .ok (.value ((if ag then Ex.s b off sz else Ex.k b off).ev env)) wa := by
      intro wa hwa
      have e2' : wa.heap[k']? = some (.cells cells ty (0, 0)) := hwa.trans e2
      have := run_loadAt ht ha e2' off (by omega)
      rw [hev]
      simp [execOp, ho, he, this]
    refine ⟨_, env', ⟨fun wa hwa => hrun wa ?_, fun b' hb' => ?_⟩, by rw [hdst]; exact h1, h2⟩
    rotate_left
    · have := List.mem_singleton.1 hb'; subst this
      exact ⟨k', bs, hn, hk0, hrun⟩
    have e2' : wa.heap[k']? = some (.cells cells ty (0, 0)) := by
      rw [hwa.block k' (Array.getElem?_eq_some_iff.1 e2).1 ?_]
      · exact e2
      · rintro ⟨b2, n2, g1, g2, g3⟩
        exact g2 (List.mem_singleton.2 (h.inj b2 b n2 bs g1 hn (h.conv b2 n2 g1 k' g3) hA k' g3 hk0))
    rw [e2', e2]
  | fa S x f d b off nd fo sz ho hdst hx hf hder hlt hnb hz =>
    obtain ⟨⟨n, hn⟩, hnd, hk⟩ := h.ptrOf hx
    obtain ⟨hA, k, he, hk0⟩ := hk hl hg
    have h' := h.lives (nd := nd) fun b' hb' => ⟨hnd b' hb', hl b' hb'⟩
    refine ⟨ptrV k (off + fo), env, ⟨fun wa _ => ?_, fun _ hb => by cases hb⟩, ?_, hd⟩
    · have := run_fieldAt hf hz k off wa
      simp [execOp, ho, he, this]
    · rw [hdst]
      exact h'.derive hlt hnb hder _ ⟨n, hn⟩ fun _ => ⟨hA, k, hk0, rfl⟩
  | rd d ss hdst hss hn hp =>
    obtain ⟨v, h1, h2⟩ := hd
    refine ⟨v, _, ⟨fun wa hwa => ?_, fun _ hb => by cases hb⟩, by rw [hdst]; exact h.bind hp v (hmk d (by simp [mkL, TI.mk1])), h2⟩
    rw [h.exec hss hn, ← opS_eq _ (fun _ => rfl)]
    exact h1 wa (h.kp0 hwa)
  | eff => cases hfl
  | act => cases hfl
  | bx => cases hfl
  | al => cases hfl
  | st => cases hfl
def PinOK (pl : Plan) (ds : Bk) (env : Env) (X : XS) (a : Act) (w : World) : Prop :=
  ∀ p, p ∈ ds.pins → a.tmps[p.1]? = some p.2 ∧ (pl.isGlob p.1 = true ∨ ∃ n k cells ty, p.2 = ptrV k 0 ∧ look pl.boxes p.1 = some n ∧ env p.1 = .agg cells ∧ w.heap[k]? = some (.cells cells ty (0, 0)) ∧ cells.size = n ∧ ¬ X k)
theorem Sim.pinned (h : Sim pl ds cs env X w0 a w) : PinOK pl ds env X a w := fun p hp => by
  obtain ⟨ht, ⟨n, k, hn, hk⟩ | hg⟩ := h.pin p hp
  · refine ⟨ht, .inr ?_⟩
    rw [hk] at ht
    obtain ⟨cells, hc⟩ := isA_iff.1 (h.conv p.1 n hn _ ht)
    obtain ⟨k', ty, e1, e2, e3, e4⟩ := h.box p.1 n hn cells hc
    rw [ht] at e1
    have : k = k' := by simpa [ptrV] using e1
    subst this
    exact ⟨n, k, cells, ty, hk, hn, hc, e2, e3, e4⟩
  · exact ⟨ht, .inl hg⟩
theorem PinOK.put {d : Option Nat} {v : Value} (h : PinOK pl ds env X (a.put d v) w) (hd : ∀ x, d = some x → ∀ p, p ∈ ds.pins → p.1 ≠ x) : PinOK pl ds env X a w := fun p hp => by
  obtain ⟨h1, h2⟩ := h p hp
  refine ⟨?_, h2⟩
  cases d with
  | none => exact h1
  | some x => rwa [put_ne _ _ _ _ (hd x rfl p hp)] at h1
theorem shape_glob {m : Bool} {og : Option (Nat × Bool)} {o : Oper} {r : CR} (hs : Shape P pl cs og m o r) (hfl : r.fl = true) : ∀ x, o.dst = some x → pl.isGlob x = true → x ∈ mkL r.l := by
  have f : ∀ {cs1 : CS} {d : Nat} {e : Ex}, o.dst = some d → ∀ x, o.dst = some x → pl.isGlob x = true → x ∈ mkL (setTo pl cs1 d e).1 := fun hd x hx hg => by
    rw [hd] at hx; injection hx with hx; subst hx
    unfold setTo
    rw [if_pos (by simp [hg])]
    simp [mkL, TI.mk1]
  cases hs with
  | mv x d e ho hd hv hp => exact f hd
  | ld t x d b off nd ag sz bs ho hd hx ht hb hp hl ha => exact f hd
  | fa S x g d b off nd fo sz ho hd hx hf hder hlt hnb hz =>
    intro y hy hg
    rw [hd] at hy; injection hy with hy; subst hy
    have := (isGlob_spec hg).2.2
    rw [hder] at this; cases this
  | rd d ss hd hs hn hp => intro y hy _; rw [hd] at hy; injection hy with hy; subst hy; simp [mkL, TI.mk1]
  | eff => cases hfl
  | act => cases hfl
  | bx => cases hfl
  | al => cases hfl
  | st => cases hfl
theorem shape_act {m : Bool} {og : Option (Nat × Bool)} {o : Oper} {r : CR} (hs : Shape P pl cs og m o r) (h : Sim pl ds cs env X w0 a w) (hg : gOK env og)
    (hl : ∀ b, b ∈ r.nd → isA (env b) = true) (hfl : r.fl = false) {pan : List PanicEntry → Env → World → XS → Prop} {next : Env → World → XS → Prop} (hd : denL P pan next r.l env w0 X)
    {K : Act → World → Prop} {Q : Exit → Act → World → Prop}
    (hK : ∀ a' w' env' X' w0', Sim pl ds r.cs env' X' w0' a' w' → next env' w0' X' → RelG (m = false) pl r.sb a w a' w' → K a' w')
    (hmk : ∀ b, b ∈ mkL r.l → ∀ p, p ∈ ds.pins → p.1 ≠ b)
    (hQ : ∀ ch w' env' X' w0', Kp X' w0' w' → PinOK pl ds env' X' a w' → pan ch env' w0' X' → Q (.panic ch) a w') : o.wp P a w K Q := by
  have real : ∀ (cs' : CS) (ss : List (Nat × Ex)), (∀ x, o.dst = some x → look pl.boxes x = none) → subst pl cs o.op.operands.toList = some ss → noSel o.op = true →
      (∀ m' w' v, Step m' X w w' → Sim pl ds cs' (updO env o.dst v) (grow X w w') w' (a.put o.dst v) w') → r.cs = cs' →
      (∀ wa, Kp X w0 wa → effW P m X wa (fun v w' X' => next (updO env o.dst v) w' X') (fun ch w' X' => pan ch env w' X') ((opS (rho env ss) o.op o.type).run P wa)) → o.wp P a w K Q := by
    intro cs' ss hdd hss hn hS hcs he
    have he := he w h.ext
    unfold Oper.wp
    rw [h.exec hss hn, ← opS_eq _ (fun _ => rfl)]
    have hst : ∀ w' v, Step m X w w' → RelG (m = false) pl r.sb a w (a.put o.dst v) w' := fun w' v hs => ⟨fun hm => by subst hm; exact RelJ.of_plain hs hdd, h.relB hs.fr⟩
    cases hr : (opS (rho env ss) o.op o.type).run P w with
    | ok n w' =>
      rw [hr] at he
      cases n <;> simp only [effW] at he <;> simp only [Oper.upon]
      case value v => exact hK _ _ _ _ _ (hcs ▸ hS m w' v he.1) he.2 (hst _ _ he.1)
      case skip => exact hK _ _ _ _ _ (hcs ▸ hS m w' undef he.1) he.2 (hst _ _ he.1)
      case enter f args =>
        obtain ⟨rfl, hc⟩ := he
        refine hc.mono fun e w'' hR => ?_
        cases e with
        | returned v => exact hK _ _ _ _ _ (hcs ▸ hS m w'' v hR.1) hR.2 (hst _ _ hR.1)
        | panicked ch => exact hQ _ _ _ _ _ (Kp.refl _ _) (h.stepped hR.1).pinned hR.2
        | outgrown => exact hR.elim
    | halt x w' =>
      rw [hr] at he
      cases x <;> simp only [effW] at he <;> simp only [Oper.upon]
      case panic v => exact hQ _ _ _ _ _ (Kp.refl _ _) (h.stepped he.1).pinned he.2
  have boxed : ∀ {d sz : Nat} {e : Ex} {ag : Bool}, denL P pan next [if !ag && sz == 1 then .box1 d e else .box d sz e] env w0 X →
      (e.ev env).cells.size = sz ∧ next (upd env d (.agg (e.ev env).cells)) w0 X := by
    intro d sz e ag hd
    simp only [denL] at hd
    split at hd
    · rename_i hcond
      simp only [Bool.and_eq_true, Bool.not_eq_true', beq_iff_eq] at hcond
      obtain ⟨g1, g2⟩ := chk_iff.1 hd
      rw [one_cells g1]
      exact ⟨by simp [hcond.2], g2⟩
    · obtain ⟨g1, g2⟩ := chk_iff.1 hd
      exact ⟨by simpa using g1, g2⟩
  have newR : ∀ (t d : Nat) (_ : d < pl.n) (cells : Array Value), RelJ pl [] a w (a.put (some d) (ptrV w.heap.size 0)) (w.alloc (.cells cells t)) := by
    intro t d hlt cells
    refine RelJ.of_ext (Ext.alloc _ _) fun b n hbb k hk hkk => ?_
    by_cases e : b = d
    · subst e
      rw [put_get _ _ _ _ (by rw [h.size]; exact hlt), if_pos rfl] at hkk
      have : w.heap.size = k := by simpa [ptrV] using hkk
      omega
    · rwa [put_ne _ _ _ _ e] at hkk
  cases hs with
  | mv => cases hfl
  | ld => cases hfl
  | fa => cases hfl
  | rd => cases hfl
  | eff d ss hdst hss hn hp =>
    refine real (cs.bind pl d) ss (fun x hx => by rw [hdst] at hx; injection hx with hx; subst hx; exact (plainDst_spec hp).2.1) hss hn (fun m' w' v hst => ?_) rfl ?_
    · rw [hdst]; exact (h.stepped hst).bind hp v (hmk d (by simp [mkL, TI.mk1]))
    · intro wa hwa
      have := hd wa hwa
      rw [hdst]; exact this
  | act ss hdst hss hn =>
    refine real cs ss (fun x hx => by rw [hdst] at hx; cases hx) hss hn (fun m' w' v hst => ?_) rfl ?_
    · rw [hdst]; exact h.stepped hst
    · intro wa hwa
      have := hd wa hwa
      rw [hdst]; exact this
  | bx t x d sz e ag ho hdst hb hv ht hlt =>
    have he := h.eval hv
    obtain ⟨h1, h2⟩ := boxed hd
    have hr : (execOp a.eval o).run P w = .ok (.value (ptrV w.heap.size 0)) (w.alloc (.cells (e.ev env).cells t)) := by
      simp [execOp, ho, he, Instr.box, newVar, newRow, ptrV]
    unfold Oper.wp
    rw [hr]
    simp only [Oper.upon]
    rw [hdst]
    exact hK _ _ _ _ _ (h.newBox hlt hb (e.ev env).cells h1 t (hmk d (by split <;> simp [mkL, TI.mk1]))) h2 ⟨fun _ => newR t d hlt _, h.relB ((Ext.alloc _ _).fr X)⟩
  | al t d sz i z ag ho hdst hb hi hz ht hlt =>
    obtain ⟨h1, h2⟩ := boxed hd
    have hr : (execOp a.eval o).run P w = .ok (.value (ptrV w.heap.size 0)) (w.alloc (.cells z.cells t)) := by
      simp [execOp, ho, Instr.alloc, zeroValue, typeInfo, hi, hz, newVar, newRow, ptrV]
    unfold Oper.wp
    rw [hr]
    simp only [Oper.upon]
    rw [hdst]
    exact hK _ _ _ _ _ (h.newBox hlt hb z.cells h1 t (hmk d (by split <;> simp [mkL, TI.mk1]))) h2 ⟨fun _ => newR t d hlt _, h.relB ((Ext.alloc _ _).fr X)⟩
  | st t x v b off nd sz bs e ag ho hdst hx hv ht hb hlt =>
    obtain ⟨⟨n, hn⟩, hnd, hk⟩ := h.ptrOf hx
    obtain ⟨hA, k, he, hk0⟩ := hk hl hg
    obtain ⟨cells, hc⟩ := isA_iff.1 hA
    obtain ⟨k', ty, e1, e2, e3, e4⟩ := h.box b n hn cells hc
    have hkk : k' = k := by rw [hk0] at e1; simpa [ptrV] using e1.symm
    subst hkk
    have hbn : bs = n := by rw [hb] at hn; injection hn
    subst hbn
    obtain ⟨h1, h2, h3⟩ : (e.ev env).cells.size = sz ∧ (e.ev env).cells.toList.all one = true ∧ next (upd env b (.agg (setL (env b).cells.toList off (e.ev env).cells.toList).toArray)) w0 X := by
      simp only [denL] at hd
      split at hd
      · rename_i hcond
        simp only [Bool.and_eq_true, Bool.not_eq_true', beq_iff_eq] at hcond
        obtain ⟨g1, g2⟩ := chk_iff.1 hd
        rw [one_cells g1]
        exact ⟨by simp [hcond.2], by simp [g1], g2⟩
      · split at hd
        · rename_i hcond
          simp only [Bool.and_eq_true, beq_iff_eq] at hcond
          obtain ⟨g1, hd⟩ := chk_iff.1 hd
          obtain ⟨g2, g3⟩ := chk_iff.1 hd
          have g1 : (e.ev env).cells.size = sz := by simpa using g1
          refine ⟨g1, g2, ?_⟩
          have hfull : setL (env b).cells.toList off (e.ev env).cells.toList = (e.ev env).cells.toList := by
            unfold setL
            rw [hc, hcond.1]
            have hz : cells.size ≤ (e.ev env).cells.size := by omega
            show List.take 0 cells.toList ++ (e.ev env).cells.toList ++ List.drop (0 + (e.ev env).cells.toList.length) cells.toList = (e.ev env).cells.toList
            rw [List.take_zero, List.nil_append, List.drop_eq_nil_of_le (by simpa using hz), List.append_nil]
          rw [hfull]
          simpa using g3
        · obtain ⟨g1, hd⟩ := chk_iff.1 hd
          obtain ⟨g2, g3⟩ := chk_iff.1 hd
          exact ⟨by simpa using g1, g2, g3⟩
    have h' := h.lives (nd := nd) fun b' hb' => ⟨hnd b' hb', hl b' hb'⟩
    have hev := h.eval hv
    have hst := run_storeAt (tyInfo_size ht) e2 off (by omega) (e.ev env) h1 h2
    have hr : (execOp a.eval o).run P w = .ok .skip (w.setRow k' (setL cells.toList off (e.ev env).cells.toList).toArray) := by
      simp [execOp, ho, he, hev, hst]
    unfold Oper.wp
    rw [hr]
    simp only [Oper.upon]
    rw [hdst]
    obtain ⟨f1, f2⟩ := fr_setRow (cells' := (setL cells.toList off (e.ev env).cells.toList).toArray) e2
    have hsz : ((setL cells.toList off (e.ev env).cells.toList).toArray).size = bs := by
      simp only [List.size_toArray]
      rw [len_setL (by simp; omega)]
      simpa using e3
    rw [hc] at h3
    refine hK _ _ _ _ _ (h'.store hb hc hk0 e2 e4 hsz f1 f2) h3 ⟨fun _ RB hRB =>
      ⟨f1.mono fun j hj => ⟨b, bs, hb, hRB b (List.mem_singleton.2 rfl), by rw [hj]; exact hk0⟩, fun _ _ hz => hz⟩, fun b2 n2 k2 g1 g2 g3 => f1.block k2 (h.blk g1 g3).1 fun hj => ?_⟩
    have hj : k2 = k' := hj
    subst hj
    exact g2 (List.mem_singleton.2 (h.inj b2 b n2 bs g1 hn (h.conv b2 n2 g1 _ g3) hA _ g3 hk0))
end
end Go.Eng
namespace Go.Eng
section
variable {P : Program} {pl : Plan} {ds : Bk} {cs : CS} {env : Env} {X : XS} {w0 w : World} {a : Act} {ops : Array Oper}
variable {pan : List PanicEntry → Env → World → XS → Prop} {next : Env → World → XS → Prop}
theorem guardL_yes {g : Nat} {want : Bool} {op : Op} {r0 r : CR} (hgl : guardL g want op r0 = some r) (hy : gWant (env g) want = true) (hd : denL P pan next r.l env w0 X) :
    denL P pan next r0.l env w0 X := by
  obtain ⟨fl, nd, l, c, rb, sb⟩ := r0
  unfold guardL at hgl
  dsimp only at hgl
  split at hgl
  · split at hgl
    · injection hgl with e; subst e; exact hd
    · cases hgl
  · split at hgl
    · cases hgl
    · injection hgl with e; subst e
      simpa only [denL, denI, hy, if_true] using hd
  · split at hgl
    · cases hgl
    · injection hgl with e; subst e
      obtain ⟨v, h1, _, h2⟩ := hd
      exact ⟨v, h1 hy, h2⟩
  · split at hgl
    · cases hgl
    · injection hgl with e; subst e
      exact hd.1 hy
  · cases hgl
theorem guardL_same {g : Nat} {want : Bool} {op : Op} {r0 r : CR} (hgl : guardL g want op r0 = some r) : r.cs = r0.cs ∧ r.nd = r0.nd ∧ r.fl = r0.fl ∧ r.rb = r0.rb ∧ r.sb = r0.sb := by
  obtain ⟨fl, nd, l, c, rb, sb⟩ := r0
  unfold guardL at hgl
  dsimp only at hgl
  split at hgl <;> (try split at hgl) <;> first
    | (cases hgl; done)
    | (injection hgl with e; subst e; exact ⟨rfl, rfl, rfl, rfl, rfl⟩)
theorem guardL_mk {g : Nat} {want : Bool} {op : Op} {r0 r : CR} (hgl : guardL g want op r0 = some r) : mkL r.l = mkL r0.l := by
  obtain ⟨fl, nd, l, c, rb, sb⟩ := r0
  unfold guardL at hgl
  dsimp only at hgl
  split at hgl <;> (try split at hgl) <;> first
    | (cases hgl; done)
    | (injection hgl with e; subst e; rfl)
theorem mkL_need (nd : List Nat) : mkL (nd.map .need) = [] := by
  induction nd with
  | nil => rfl
  | cons b nd ih => simp only [mkL, List.map_cons, List.flatMap_cons, TI.mk1, List.nil_append] at ih ⊢; exact ih
theorem mkL_append (l l' : List TI) : mkL (l ++ l') = mkL l ++ mkL l' := List.flatMap_append
theorem mkL_all (r : CR) : mkL r.all = mkL r.l := by unfold CR.all; rw [mkL_append, mkL_need, List.nil_append]
theorem guard_no {m : Bool} {g : Nat} {want : Bool} {o : Oper} {r0 r : CR} (hs : Shape P pl cs (some (g, want)) m o r0) (hgl : guardL g want o.op r0 = some r) (h : Sim pl ds cs env X w0 a w)
    (hl : ∀ b, b ∈ r0.nd → isA (env b) = true) (hno : gWant (env g) want = false) (hd : denL P pan next r.l env w0 X) (hmk : ∀ b, b ∈ mkL r.l → ∀ p, p ∈ ds.pins → p.1 ≠ b) :
    ∃ env', Sim pl ds r.cs env' X w0 (a.put o.dst undef) w ∧ next env' w0 X := by
  have mvlike : ∀ (cs1 : CS) (d : Nat) (e : Ex) (nd rb : List Nat), Sim pl ds cs1 env X w0 a w → o.dst = some d → pl.plainDst d = true → isFA o.op = false → r0 = ⟨true, nd, (setTo pl cs1 d e).1, (setTo pl cs1 d e).2, rb, []⟩ →
      ∃ env', Sim pl ds r.cs env' X w0 (a.put o.dst undef) w ∧ next env' w0 X := by
    intro cs1 d e nd rb h1 hdst hp hfa hr
    subst hr
    unfold guardL setTo at hgl
    by_cases hgm : (pl.isGlob d || pl.mat.contains d) = true
    · simp only [hgm, if_true] at hgl
      split at hgl
      · cases hgl
      · injection hgl with e1; subst e1
        simp only [denL, denI, hno, Bool.false_eq_true, if_false] at hd
        exact ⟨_, by rw [hdst]; exact h1.bind hp undef (hmk d (by simp [mkL, TI.mk1])), hd⟩
    · simp only [hgm, hfa, Bool.false_eq_true, if_false] at hgl
      cases hgl
  cases hs with
  | mv x d e ho hdst hv hp => exact mvlike cs d e [] [] h hdst hp (by rcases ho with ho | ho <;> rw [ho] <;> rfl) rfl
  | ld t x d b off nd ag sz bs ho hdst hx ht hb hp hlt ha =>
    obtain ⟨_, hnd, _⟩ := h.ptrOf hx
    exact mvlike (cs.lives nd) d _ nd [b] (h.lives fun b' hb' => ⟨hnd b' hb', hl b' hb'⟩) hdst hp (by rw [ho]; rfl) rfl
  | fa S x f d b off nd fo sz ho hdst hx hf hder hlt hnb hz =>
    obtain ⟨hb, hnd, hk⟩ := h.ptrOf hx
    have h' := h.lives (nd := nd) fun b' hb' => ⟨hnd b' hb', hl b' hb'⟩
    unfold guardL at hgl
    simp only [ho, isFA, if_true, Option.some.injEq] at hgl
    subst hgl
    refine ⟨env, ?_, hd⟩
    rw [hdst]
    exact h'.derive hlt hnb hder _ hb fun hg => by simp only [gOK] at hg; rw [hno] at hg; cases hg
  | rd d ss hdst hss hn hp =>
    unfold guardL at hgl
    dsimp only at hgl
    split at hgl
    · cases hgl
    · injection hgl with e; subst e
      obtain ⟨v, _, h1, h2⟩ := hd
      have hv := h1 hno
      subst hv
      exact ⟨_, by rw [hdst]; exact h.bind hp undef (hmk d (by simp [mkL, TI.mk1])), h2⟩
  | eff d ss hdst hss hn hp =>
    unfold guardL at hgl
    dsimp only at hgl
    split at hgl
    · cases hgl
    · injection hgl with e; subst e
      exact ⟨_, by rw [hdst]; exact h.bind hp undef (hmk d (by simp [mkL, TI.mk1])), hd.2 hno⟩
  | act ss hdst hss hn =>
    unfold guardL at hgl
    dsimp only at hgl
    split at hgl
    · cases hgl
    · injection hgl with e; subst e
      exact ⟨_, by rw [hdst]; exact h, hd.2 hno⟩
  | bx t x d sz e ag => cases hcnd : (!ag && sz == 1) <;> (unfold guardL at hgl; simp only [hcnd] at hgl; cases hgl)
  | al t d sz i z ag => cases hcnd : (!ag && sz == 1) <;> (unfold guardL at hgl; simp only [hcnd] at hgl; cases hgl)
  | st t x v b off nd sz bs e ag =>
    cases hcnd : (!ag && sz == 1) <;> cases hcnd2 : (off == 0 && sz == bs) <;> (unfold guardL at hgl; simp only [hcnd, hcnd2] at hgl; cases hgl)
theorem guard_wanted (h : Sim pl ds cs env X w0 a w) {o : Oper} {j gs g : Nat} {want : Bool} (hg : o.guard = some (j, want)) (hgs : (ops[j]?).bind (·.dst) = some gs)
    (hv : valOf pl cs (.tmp gs) = some (.t g)) : Region.wanted o (yielded ops a.tmps) = gWant (env g) want := by
  have ht : a.tmps[gs]? = some (env g) := by
    simp only [valOf] at hv
    split at hv
    · rename_i hgl
      injection hv with hv
      injection hv with hv
      subst hv
      exact h.glob _ hgl
    · have := h.sig _ (look_mem hv)
      simpa [Ex.ev] using this
  unfold Region.wanted yielded
  simp only [hg, hgs, Option.bind_some, ht, gWant]
  cases env g <;> simp
theorem op_fl {m : Bool} {o : Oper} {r : CR} (hc : cOp P pl cs ops m o = some r) (hfl : r.fl = true) (h : Sim pl ds cs env X w0 a w) (hd : denL P pan next r.all env w0 X) (hmk : ∀ b, b ∈ mkL r.l → ∀ p, p ∈ ds.pins → p.1 ≠ b) :
    ∃ v env', (YF P pl r.rb ops o v a w ∧ ∀ b, b ∈ r.rb → YL P pl b ops o v a w) ∧ Sim pl ds r.cs env' X w0 (a.put o.dst v) w ∧ next env' w0 X := by
  obtain ⟨hl, hd⟩ := denL_need _ hd
  unfold cOp at hc
  split at hc
  · rename_i hg
    obtain ⟨v, env', h1, h2, h3⟩ := shape_val (shape_of hc) h trivial hl hfl hd hmk
    exact ⟨v, env', ⟨.inl ⟨by simp [Region.wanted, hg], h1.1⟩, fun b hb => .inl ⟨by simp [Region.wanted, hg], h1.2 b hb⟩⟩, h2, h3⟩
  · rename_i j want hg
    split at hc
    · cases hc
    · rename_i gs hgs
      split at hc
      · rename_i g hv
        have hw := guard_wanted h hg hgs hv
        cases hc0 : cCore P pl cs (some (g, want)) m o with
        | none => rw [hc0] at hc; cases hc
        | some r0 =>
          rw [hc0] at hc
          simp only [Option.bind_some] at hc
          obtain ⟨e1, e2, e3, e4, e5⟩ := guardL_same hc
          cases hy : gWant (env g) want with
          | true =>
            obtain ⟨v, env', h1, h2, h3⟩ := shape_val (shape_of hc0) h hy (e2 ▸ hl) (e3 ▸ hfl) (guardL_yes hc hy hd) (fun b hb => hmk b (by rw [guardL_mk hc]; exact hb))
            exact ⟨v, env', ⟨.inl ⟨by rw [hw, hy], e4 ▸ h1.1⟩, fun b hb => .inl ⟨by rw [hw, hy], h1.2 b (e4 ▸ hb)⟩⟩, e1 ▸ h2, h3⟩
          | false =>
            obtain ⟨env', h1, h2⟩ := guard_no (shape_of hc0) hc h (e2 ▸ hl) hy hd hmk
            exact ⟨undef, env', ⟨.inr ⟨by rw [hw, hy], rfl⟩, fun _ _ => .inr ⟨by rw [hw, hy], rfl⟩⟩, h1, h2⟩
      · cases hc
theorem op_dst {m : Bool} {o : Oper} {r : CR} (hc : cOp P pl cs ops m o = some r) (hfl : r.fl = true) : ∀ x, o.dst = some x → look pl.boxes x = none := by
  unfold cOp at hc
  split at hc
  · exact shape_dst (shape_of hc) hfl
  · rename_i j want hg
    split at hc
    · cases hc
    · rename_i gs hgs
      split at hc
      · rename_i g hv
        cases hc0 : cCore P pl cs (some (g, want)) m o with
        | none => rw [hc0] at hc; cases hc
        | some r0 =>
          rw [hc0] at hc
          simp only [Option.bind_some] at hc
          exact shape_dst (shape_of hc0) ((guardL_same hc).2.2.1 ▸ hfl)
      · cases hc
theorem op_glob {m : Bool} {o : Oper} {r : CR} (hc : cOp P pl cs ops m o = some r) (hfl : r.fl = true) : ∀ x, o.dst = some x → pl.isGlob x = true → x ∈ mkL r.l := by
  unfold cOp at hc
  split at hc
  · exact shape_glob (shape_of hc) hfl
  · rename_i j want hg
    split at hc
    · cases hc
    · rename_i gs hgs
      split at hc
      · rename_i g hv
        cases hc0 : cCore P pl cs (some (g, want)) m o with
        | none => rw [hc0] at hc; cases hc
        | some r0 =>
          rw [hc0] at hc
          simp only [Option.bind_some] at hc
          rw [guardL_mk hc]
          exact shape_glob (shape_of hc0) ((guardL_same hc).2.2.1 ▸ hfl)
      · cases hc
theorem Sim.apart (h : Sim pl ds cs env X w0 a w) {m : Bool} {o : Oper} {r : CR} (hc : cOp P pl cs ops m o = some r) (hfl : r.fl = true) (hm : ∀ b, b ∈ mkL r.l → ∀ p, p ∈ ds.pins → p.1 ≠ b) :
    ∀ x, o.dst = some x → ∀ p, p ∈ ds.pins → p.1 ≠ x := fun x hx p hp e => by
  rcases (h.pin p hp).2 with ⟨n, _, hn, _⟩ | hg
  · rw [e, op_dst hc hfl x hx] at hn; cases hn
  · exact hm x (op_glob hc hfl x hx (e ▸ hg)) p hp e
theorem op_act {m : Bool} {o : Oper} {r : CR} (hc : cOp P pl cs ops m o = some r) (h : Sim pl ds cs env X w0 a w) (hd : denL P pan next r.all env w0 X)
    {K : Act → World → Prop} {Q : Exit → Act → World → Prop}
    (hK : ∀ a' w' env' X' w0', Sim pl ds r.cs env' X' w0' a' w' → next env' w0' X' → RelG (m = false) pl r.sb a w a' w' → K a' w')
    (hmk : ∀ b, b ∈ mkL r.l → ∀ p, p ∈ ds.pins → p.1 ≠ b)
    (hQ : ∀ ch w' env' X' w0', Kp X' w0' w' → PinOK pl ds env' X' a w' → pan ch env' w0' X' → Q (.panic ch) a w') :
    if Region.wanted o (yielded ops a.tmps) = true then o.wp P a w K Q else K (a.put o.dst undef) w := by
  cases hfl : r.fl with
  | true =>
    obtain ⟨v, env', hy, h1, h2⟩ := op_fl hc hfl h hd hmk
    rcases hy.1 with ⟨hw, hv⟩ | ⟨hw, hv⟩
    · rw [if_pos hw]
      unfold Oper.wp
      rw [hv w (Fr.refl _ w)]
      exact hK _ _ _ _ _ h1 h2 ⟨fun _ => RelJ.refl pl _ a w _ _ (op_dst hc hfl), RelB.refl _ _ _ _⟩
    · rw [if_neg (by rw [hw]; simp)]
      subst hv
      exact hK _ _ _ _ _ h1 h2 ⟨fun _ => RelJ.refl pl _ a w _ _ (op_dst hc hfl), RelB.refl _ _ _ _⟩
  | false =>
    obtain ⟨hl, hd⟩ := denL_need _ hd
    unfold cOp at hc
    split at hc
    · rename_i hg
      rw [if_pos (by simp [Region.wanted, hg])]
      exact shape_act (shape_of hc) h trivial hl hfl hd hK hmk hQ
    · rename_i j want hg
      split at hc
      · cases hc
      · rename_i gs hgs
        split at hc
        · rename_i g hv
          have hw := guard_wanted h hg hgs hv
          cases hc0 : cCore P pl cs (some (g, want)) m o with
          | none => rw [hc0] at hc; cases hc
          | some r0 =>
            rw [hc0] at hc
            simp only [Option.bind_some] at hc
            obtain ⟨e1, e2, e3, e4, e5⟩ := guardL_same hc
            cases hy : gWant (env g) want with
            | true =>
              rw [if_pos (by rw [hw, hy])]
              exact shape_act (shape_of hc0) h hy (e2 ▸ hl) (e3 ▸ hfl) (guardL_yes hc hy hd) (e5 ▸ e1 ▸ hK) (fun b hb => hmk b (by rw [guardL_mk hc]; exact hb)) hQ
            | false =>
              rw [if_neg (by rw [hw, hy]; simp)]
              obtain ⟨env', h1, h2⟩ := guard_no (shape_of hc0) hc h (e2 ▸ hl) hy hd hmk
              refine hK _ _ _ _ _ h1 h2 ⟨fun _ => ?_, RelB.refl _ _ _ _⟩
              refine RelJ.of_ext (Ext.refl w) fun b n hb k hk hkk => ?_
              cases hdst : o.dst with
              | none => rw [hdst] at hkk; exact hkk
              | some x =>
                rw [hdst] at hkk
                by_cases hbx : b = x
                · subst hbx
                  by_cases hlt : b < a.tmps.size
                  · rw [put_get _ _ _ _ hlt, if_pos rfl] at hkk; cases hkk
                  · rw [Array.getElem?_eq_none (by simp [Act.put]; omega)] at hkk; cases hkk
                · rwa [put_ne _ _ _ _ hbx] at hkk
        · cases hc
theorem seq_ok {Q : Exit → Act → World → Prop} (hN : ∀ cs' a' w' env' X' w0', Sim pl ds cs' env' X' w0' a' w' → next env' w0' X' → Q .normal a' w')
    (hQ : ∀ ch a' w' env' X' w0', a'.defers = ds.ds → Kp X' w0' w' → PinOK pl ds env' X' a' w' → pan ch env' w0' X' → Q (.panic ch) a' w') : ∀ (l : List Oper) (cs : CS) (tl : List TI) (env : Env) (X : XS) (w0 : World) (a : Act) (w : World),
    cSeq P pl ops l cs = some tl → (∀ b, b ∈ mkL tl → ∀ p, p ∈ ds.pins → p.1 ≠ b) → Sim pl ds cs env X w0 a w → denL P pan next tl env w0 X → wpList P ops Q l a w
  | [], cs, tl, env, X, w0, a, w, hc, _, h, hd => by
    simp only [cSeq, Option.some.injEq] at hc
    subst hc
    exact hN _ _ _ _ _ _ h hd
  | o :: l, cs, tl, env, X, w0, a, w, hc, hm, h, hd => by
    simp only [cSeq] at hc
    cases hr : cOp P pl cs ops true o with
    | none => simp [hr] at hc
    | some r =>
      cases hs : cSeq P pl ops l r.cs with
      | none => simp [hr, hs] at hc
      | some tl' =>
        simp only [hr, hs, Option.map_some, Option.some.injEq] at hc
        subst hc
        rw [denL_append] at hd
        rw [mkL_append, mkL_all] at hm
        refine wpList_step fun K hK => op_act hr h hd (fun a' w' env' X' w0' h1 h2 _ => hK _ _ (seq_ok hN hQ l r.cs tl' env' X' w0' a' w' hs (fun b hb => hm b (List.mem_append_right _ hb)) h1 h2)) (fun b hb => hm b (List.mem_append_left _ hb)) ?_
        exact fun ch w' env' X' w0' hx hpin hp => hQ ch a w' env' X' w0' h.defers hx hpin hp
theorem firstRd_spec {listed : Array Bool} : ∀ {l : List Nat} {i : Nat} {r : CR}, firstRd P pl ops cs listed l = some (i, r) →
    i ∈ l ∧ r.fl = true ∧ freeB pl ops listed i r.rb = true ∧ ∃ o, ops[i]? = some o ∧ cOp P pl cs ops (lastB pl ops i) o = some r
  | [], _, _, h => by cases h
  | j :: l, i, r, h => by
    simp only [firstRd] at h
    split at h
    · rename_i x hx
      split at h
      · rename_i hc
        simp only [Option.some.injEq, Prod.mk.injEq] at h
        obtain ⟨rfl, rfl⟩ := h
        simp only [Bool.and_eq_true] at hc
        cases ho : ops[j]? with
        | none => simp [ho] at hx
        | some o =>
          simp only [ho, Option.bind_some] at hx
          exact ⟨List.mem_cons_self .., hc.1, hc.2, o, rfl, hx⟩
      · obtain ⟨h1, h2⟩ := firstRd_spec h
        exact ⟨List.mem_cons_of_mem _ h1, h2⟩
    · obtain ⟨h1, h2⟩ := firstRd_spec h
      exact ⟨List.mem_cons_of_mem _ h1, h2⟩
theorem allocBox_op {o : Oper} {b : Nat × Nat × Bool × Value} (h : allocBox P pl o = some b) (m : Bool) : cOp P pl cs ops m o = some ⟨false, [], [boxI b], boxCS cs b.1, [], []⟩ := by
  unfold allocBox at h
  split at h
  · rename_i t d hg hop hd
    split at h
    · rename_i sz z ag s h1 h2 h3
      split at h
      · rename_i hc
        simp only [Option.some.injEq] at h
        subst h
        simp only [cOp, hg, cCore, hop, hd, h1, h2, cBox, h3, hc, if_true, boxI, boxCS]
      · cases h
    · cases h
  · cases h
theorem upd_comm (env : Env) {d d' : Nat} (h : d ≠ d') (v v' : Value) : upd (upd env d v) d' v' = upd (upd env d' v') d v := by
  funext s
  by_cases h1 : s = d
  · subst h1; rw [upd_ne _ _ h, upd_same, upd_same]
  · by_cases h2 : s = d'
    · subst h2; rw [upd_same, upd_ne _ _ (Ne.symm h), upd_same]
    · rw [upd_ne _ _ h2, upd_ne _ _ h1, upd_ne _ _ h1, upd_ne _ _ h2]
theorem boxI_swap {b b' : Nat × Nat × Bool × Value} (hne : b.1 ≠ b'.1) {l : List TI} (h : denL P pan next (boxI b :: boxI b' :: l) env w0 X) : denL P pan next (boxI b' :: boxI b :: l) env w0 X := by
  obtain ⟨d, n, o, z⟩ := b
  obtain ⟨d', n', o', z'⟩ := b'
  have hne : d ≠ d' := hne
  cases o <;> cases o' <;> simp only [boxI, denL, denI, Ex.ev, chk_iff, if_true, if_false, Bool.false_eq_true] at h ⊢ <;> obtain ⟨h1, h2, h3⟩ := h <;> exact ⟨h2, h1, by rw [upd_comm _ hne.symm]; exact h3⟩
theorem boxCS_swap {d d' : Nat} {env' : Env} {X' : XS} {w0' : World} {a' : Act} {w' : World} (h : Sim pl ds (boxCS (boxCS cs d') d) env' X' w0' a' w') : Sim pl ds (boxCS (boxCS cs d) d') env' X' w0' a' w' := by
  refine ⟨h.size, h.defers, h.pin, h.ext, h.xlt, h.glob, fun p hp => h.sig p ?_, h.box, h.inj, h.conv, fun b hb => h.live b ?_, fun p hp => h.ptr p ?_⟩
  · simp only [boxCS, CS.kill, CS.lives, List.mem_filter] at hp ⊢
    exact ⟨⟨hp.1.1, hp.2⟩, hp.1.2⟩
  · simp only [boxCS, CS.kill, CS.lives, List.mem_append, List.mem_singleton] at hb ⊢
    rcases hb with h | h | h
    · exact .inr (.inl h)
    · exact .inl h
    · exact .inr (.inr h)
  · simp only [boxCS, CS.kill, CS.lives, List.mem_filter] at hp ⊢
    exact ⟨⟨hp.1.1, hp.2⟩, hp.1.2⟩
theorem isL1_eq {l : List Nat} {i : Nat} (h : isL1 l i = true) : l = [i] := by
  unfold isL1 at h
  split at h
  · rw [beq_iff_eq.1 h]
  · cases h
theorem one_op {i : Nat} {o : Oper} {r : CR} {Q : Exit → Act → World → Prop} (ho : ops[i]? = some o) (hx : cOp P pl cs ops (lastB pl ops i) o = some r) (hsb : r.sb = []) (h : Sim pl ds cs env X w0 a w) (hd : denL P pan next r.all env w0 X) {listed : Array Bool} {fuel : Nat}
    (hmk : ∀ b, b ∈ mkL r.l → ∀ p, p ∈ ds.pins → p.1 ≠ b)
    (hQ : ∀ ch a' w' env' X' w0', a'.defers = ds.ds → Kp X' w0' w' → PinOK pl ds env' X' a' w' → pan ch env' w0' X' → Q (.panic ch) a' w')
    (hK : ∀ a' w' env' X' w0', Sim pl ds r.cs env' X' w0' a' w' → next env' w0' X' → wpAnyG P pl ops Q fuel (listed.setIfInBounds i true) a' w') :
    wpOp P ops Q i (fun a' w' => (∀ o, ops[i]? = some o → RelG (lastB pl ops i = false) pl (sbOf pl ops o) a w a' w') ∧ wpAnyG P pl ops Q fuel (listed.setIfInBounds i true) a' w') a w := by
  have hact := op_act (ops := ops) (K := fun a' w' => (∀ o', ops[i]? = some o' → RelG (lastB pl ops i = false) pl (sbOf pl ops o') a w a' w') ∧ wpAnyG P pl ops Q fuel (listed.setIfInBounds i true) a' w') (Q := Q) hx h hd
    (fun a' w' env' X' w0' h1 h2 h3 => ⟨fun o' ho' => ⟨fun hlb => (h3.1 hlb).sub fun b hb => (by rw [hsb] at hb; cases hb), h3.2.sub fun b hb => (by rw [hsb] at hb; cases hb)⟩, hK a' w' env' X' w0' h1 h2⟩)
    hmk (fun ch w' env' X' w0' hk hpin hp => hQ ch a w' env' X' w0' h.defers hk hpin hp)
  unfold wpOp
  simp only [ho] at hact ⊢
  split
  · rename_i hw
    rw [if_pos hw] at hact
    exact .inl hact
  · rename_i hw
    rw [if_neg hw] at hact
    exact hact
theorem draw_ok {Q : Exit → Act → World → Prop} (hN : ∀ cs' a' w' env' X' w0', Sim pl ds cs' env' X' w0' a' w' → next env' w0' X' → Q .normal a' w')
    (hQ : ∀ ch a' w' env' X' w0', a'.defers = ds.ds → Kp X' w0' w' → PinOK pl ds env' X' a' w' → pan ch env' w0' X' → Q (.panic ch) a' w')
    (hQi : ∀ c a (d : Option Nat) v w, (∀ x, d = some x → ∀ p, p ∈ ds.pins → p.1 ≠ x) → Q (.panic c) (a.put d v) w → Q (.panic c) a w) (hsel : Region.noSelect ops = true) :
    ∀ (fuel : Nat) (listed : Array Bool) (cs : CS) (tl : List TI) (env : Env) (X : XS) (w0 : World) (a : Act) (w : World),
    cDraw P pl ops fuel listed cs = some tl → (∀ b, b ∈ mkL tl → ∀ p, p ∈ ds.pins → p.1 ≠ b) → Sim pl ds cs env X w0 a w → denL P pan next tl env w0 X → wpAnyG P pl ops Q fuel listed a w
  | 0, listed, cs, tl, env, X, w0, a, w, hc, _, h, hd => by
    simp only [cDraw] at hc
    split at hc
    · rename_i hr
      simp only [Option.some.injEq] at hc
      subst hc
      exact ⟨by simpa using hr, hN _ _ _ _ _ _ h hd⟩
    · cases hc
  | fuel + 1, listed, cs, tl, env, X, w0, a, w, hc, hm, h, hd => by
    simp only [cDraw] at hc
    split at hc
    · rename_i i r hf
      obtain ⟨h1, h2, h3, o, ho, h4⟩ := firstRd_spec hf
      cases hs : cDraw P pl ops fuel (listed.setIfInBounds i true) r.cs with
      | none => simp [hs] at hc
      | some tl' =>
        simp only [hs, Option.map_some, Option.some.injEq] at hc
        subst hc
        rw [denL_append] at hd
        rw [mkL_append, mkL_all] at hm
        obtain ⟨v, env', hy, hS, hn⟩ := op_fl h4 h2 h hd (fun b hb => hm b (List.mem_append_left _ hb))
        have hsp : ∀ j oj, ops[j]? = some oj → j ≠ i → listed.getD j true = false → ¬ (j ∈ blkd ops listed i ∨ j = i ∨ (listed.getD j true = false ∧ ∃ oj, ops[j]? = some oj ∧ waits oj i = true)) → _ :=
          fun j oj hj hne hun hno => freeB_spec ho h3 j oj hj hne hun (fun hb => hno (.inl hb)) (by
            cases hw : waits oj i with
            | false => rfl
            | true => exact absurd (.inr (.inr ⟨hun, oj, hj, hw⟩)) hno)
        obtain ⟨Y, hyx, hY, hst⟩ : ∃ Y : Act → World → Prop, (∀ a w, Y a w → Yx P ops o v a w) ∧ Y a w ∧ ∀ j oj, oj.dst = oj.dst → o.apart ops oj = true → (lastB pl ops j = false ∨ pureO o = true ∨ ldB o r.rb = true) → (∀ b, b ∈ sbOf pl ops oj → ¬ b ∈ r.rb) →
            Stb pl ops o oj (lastB pl ops j = false) (sbOf pl ops oj) Y := by
          cases hlb : ldB o r.rb with
          | false => exact ⟨YF P pl r.rb ops o v, fun _ _ h => h.yx, hy.1, fun j oj _ _ h4 h5 => YF.stb (h4.imp id fun h => h.elim id fun h => by cases h) h5⟩
          | true =>
            unfold ldB at hlb
            split at hlb
            · rename_i t x hop
              have hxr : x ∈ r.rb := by simpa using hlb
              refine ⟨YL P pl x ops o v, fun _ _ h => h.yx, hy.2 x hxr, fun j oj _ hap _ h5 => YL.stb (fun d hd hdx => ?_) fun hm => h5 x hm hxr⟩
              subst hdx
              refine (Oper.apart_spec hap).2.2 d hd (List.mem_append_left _ (List.mem_filterMap.2 ⟨.tmp d, ?_, rfl⟩))
              simp [hop, Op.operands]
            · cases hlb
        refine wpAnyG_first hyx ho (Region.noSelect_spec hsel) (freeB_dst ho h3) (fun c a' w' hq => hQi c a' o.dst v w' (h.apart h4 h2 fun b hb => hm b (List.mem_append_left _ hb)) hq) fuel listed a w
          (fun j => j ∈ blkd ops listed i ∨ j = i ∨ (listed.getD j true = false ∧ ∃ oj, ops[j]? = some oj ∧ waits oj i = true)) (.inr (.inl rfl)) (fun j hj => ?_)
          (fun j oj hj hne hun hno => have h := hsp j oj hj hne hun hno; ⟨h.1, hst j oj rfl h.1 h.2.1 h.2.2⟩) h1 hY ?_
        · rcases hj with hj | rfl | ⟨hu, oj, hoj, hw⟩
          · rcases blkd_spec j hj with h | ⟨h, oj, k, q1, q2, q3⟩
            · exact .inl h
            · exact .inr ⟨h, oj, k, q1, q2, .inl q3⟩
          · exact .inl rfl
          · exact .inr ⟨hu, oj, i, hoj, hw, .inr (.inl rfl)⟩
        exact draw_ok hN hQ hQi hsel fuel _ r.cs tl' env' X w0 _ w hs (fun b hb => hm b (List.mem_append_right _ hb)) hS hn
    · split at hc
      · rename_i i hr
        split at hc
        · rename_i o ho
          split at hc
          · rename_i r hx
            split at hc
            · rename_i hsb
              cases hs : cDraw P pl ops fuel (listed.setIfInBounds i true) r.cs with
              | none => simp [hs] at hc
              | some tl' =>
                simp only [hs, Option.map_some, Option.some.injEq] at hc
                subst hc
                rw [denL_append] at hd
                rw [mkL_append, mkL_all] at hm
                refine ⟨fun h0 => (by rw [hr] at h0; cases h0), fun i' hi' => ?_⟩
                rw [hr] at hi'
                have hii := List.mem_singleton.1 hi'
                subst hii
                have hsub : ∀ b, b ∈ r.sb → b ∈ sbOf pl ops o := fun b hb => by have := List.all_eq_true.1 hsb b hb; simpa using this
                have hact := op_act (ops := ops) (K := fun a' w' => (∀ o', ops[i']? = some o' → RelG (lastB pl ops i' = false) pl (sbOf pl ops o') a w a' w') ∧ wpAnyG P pl ops Q fuel (listed.setIfInBounds i' true) a' w') (Q := Q) hx h hd
                  (fun a' w' env' X' w0' h1 h2 h3 => ⟨fun o' ho' => by rw [ho] at ho'; injection ho' with ho'; subst ho'; exact ⟨fun hlb => (h3.1 hlb).sub hsub, h3.2.sub hsub⟩, draw_ok hN hQ hQi hsel fuel _ r.cs tl' env' X' w0' a' w' hs (fun b hb => hm b (List.mem_append_right _ hb)) h1 h2⟩)
                  (fun b hb => hm b (List.mem_append_left _ hb)) (fun ch w' env' X' w0' hk hpin hp => hQ ch a w' env' X' w0' h.defers hk hpin hp)
                unfold wpOp
                simp only [ho] at hact ⊢
                split
                · rename_i hw
                  rw [if_pos hw] at hact
                  exact .inl hact
                · rename_i hw
                  rw [if_neg hw] at hact
                  exact hact
            · cases hc
          · cases hc
        · cases hc
      · rename_i i j hr
        split at hc
        · rename_i bi hp
          cases hs : cDraw P pl ops fuel (listed.setIfInBounds i true) (boxCS cs bi.1) with
          | none => simp [hs] at hc
          | some tl' =>
            simp only [hs, Option.map_some, Option.some.injEq] at hc
            subst hc
            have hmc : ∀ (i : TI) (l : List TI), mkL (i :: l) = mkL [i] ++ mkL l := fun i l => mkL_append [i] l
            rw [hmc] at hm
            unfold pairB at hp
            split at hp
            · rename_i bi' bj hbi hbj
              split at hp
              · rename_i hpc
                simp only [Option.some.injEq] at hp
                subst hp
                simp only [Bool.and_eq_true, Bool.not_eq_true', beq_eq_false_iff_ne] at hpc
                obtain ⟨⟨hne, hri⟩, hrj⟩ := hpc
                replace hri := isL1_eq hri
                replace hrj := isL1_eq hrj
                obtain ⟨oi, hoi, hai⟩ := Option.bind_eq_some_iff.1 hbi
                obtain ⟨oj, hoj, haj⟩ := Option.bind_eq_some_iff.1 hbj
                have hci := fun (cs : CS) (m : Bool) => allocBox_op (cs := cs) (ops := ops) hai m
                have hcj := fun (cs : CS) (m : Bool) => allocBox_op (cs := cs) (ops := ops) haj m
                refine ⟨fun h0 => (by rw [hr] at h0; cases h0), fun i' hi' => ?_⟩
                rw [hr] at hi'
                rcases List.mem_cons.1 hi' with rfl | hi'
                · exact one_op hoi (hci cs _) rfl h (hd : denL P pan (denL P pan next tl') [boxI bi'] env w0 X) (fun b hb => hm b (List.mem_append_left _ hb)) hQ fun a' w' env' X' w0' h1 h2 => draw_ok hN hQ hQi hsel fuel _ _ tl' env' X' w0' a' w' hs (fun b hb => hm b (List.mem_append_right _ hb)) h1 h2
                · have hji := List.mem_singleton.1 hi'
                  subst hji
                  cases fuel with
                  | zero =>
                    simp only [cDraw, hri] at hs
                    cases hs
                  | succ f =>
                    simp only [cDraw, hri, firstRd, hoj, Option.bind_some, hcj, Bool.false_and, Bool.false_eq_true, if_false, List.all_nil, if_true] at hs
                    cases hs2 : cDraw P pl ops f ((listed.setIfInBounds i true).setIfInBounds i' true) (boxCS (boxCS cs bi'.1) bj.1) with
                    | none => simp [hs2] at hs
                    | some tl'' =>
                      simp only [hs2, Option.map_some, Option.some.injEq] at hs
                      have htl : boxI bj :: tl'' = tl' := hs
                      subst htl
                      rw [hmc (boxI bj) tl''] at hm
                      have hd2 := boxI_swap hne hd
                      refine one_op hoj (hcj cs _) rfl h (hd2 : denL P pan (denL P pan next (boxI bi' :: tl'')) [boxI bj] env w0 X) (fun b hb => hm b (List.mem_append_right _ (List.mem_append_left _ hb))) hQ fun a' w' env' X' w0' h1 h2 => ?_
                      refine ⟨fun h0 => (by rw [hrj] at h0; cases h0), fun k hk => ?_⟩
                      rw [hrj] at hk
                      have hki := List.mem_singleton.1 hk
                      subst hki
                      refine one_op hoi (hci _ _) rfl h1 (h2 : denL P pan (denL P pan next tl'') [boxI bi'] env' w0' X') (fun b hb => hm b (List.mem_append_left _ hb)) hQ fun a'' w'' env'' X'' w0'' h3 h4 => ?_
                      have hkj : k ≠ i' := fun e => by
                        subst e
                        rw [hoi] at hoj; cases hoj
                        rw [hai] at haj; cases haj
                        exact hne rfl
                      rw [Array.setIfInBounds_comm _ _ hkj.symm]
                      exact draw_ok hN hQ hQi hsel f _ _ tl'' env'' X'' w0'' a'' w'' hs2 (fun b hb => hm b (List.mem_append_right _ (List.mem_append_right _ hb))) (boxCS_swap h3) h4
              · cases hp
            · cases hp
        · cases hc
      · cases hc
end
end Go.Eng
namespace Go.Eng
section
variable {P : Program}
theorem grow_sub {X : XS} {w w' : World} : ∀ k, X k → grow X w w' k := fun _ h => .inl h
theorem effW_mono {m : Bool} {X : XS} {w : World} {n n' : Value → World → XS → Prop} {p p' : List PanicEntry → World → XS → Prop} {r : Result Next} (h : effW P m X w n p r)
    (hn : ∀ v w' X', (∀ k, X k → X' k) → n v w' X' → n' v w' X') (hp : ∀ c w' X', (∀ k, X k → X' k) → p c w' X' → p' c w' X') : effW P m X w n' p' r := by
  cases r with
  | ok x w' =>
    cases x <;> simp only [effW] at h ⊢
    case value v => exact ⟨h.1, hn _ _ _ grow_sub h.2⟩
    case skip => exact ⟨h.1, hn _ _ _ grow_sub h.2⟩
    case enter f args =>
      refine ⟨h.1, h.2.mono fun e w'' he => ?_⟩
      cases e with
      | returned v => exact ⟨he.1, hn _ _ _ grow_sub he.2⟩
      | panicked c => exact ⟨he.1, hp _ _ _ grow_sub he.2⟩
      | outgrown => exact he
  | halt x w' =>
    cases x <;> simp only [effW] at h ⊢
    case panic v => exact ⟨h.1, hp _ _ _ grow_sub h.2⟩
theorem upd_out {env : Env} {d s : Nat} {v : Value} (h : ¬ s = d) : upd env d v s = env s := upd_ne _ _ h
theorem updO_out {env : Env} {d : Option Nat} {s : Nat} {v : Value} (h : ¬ s ∈ d.toList) : updO env d v s = env s := by
  cases d with
  | none => rfl
  | some d => exact upd_ne _ _ (by simpa using h)
theorem denL_frame : ∀ (l : List TI) {pan pan' : List PanicEntry → Env → World → XS → Prop} {next next' : Env → World → XS → Prop} {env : Env} {w : World} {X : XS},
    denL P pan next l env w X →
    (∀ e w' X', (∀ k, X k → X' k) → (∀ s, ¬ s ∈ l.flatMap TI.wr → e s = env s) → next e w' X' → next' e w' X') →
    (∀ c e w' X', (∀ k, X k → X' k) → (∀ s, ¬ s ∈ l.flatMap TI.wr → e s = env s) → pan c e w' X' → pan' c e w' X') → denL P pan' next' l env w X
  | [], _, _, _, _, _, _, _, h, hn, _ => hn _ _ _ (fun _ h => h) (fun _ _ => rfl) h
  | i :: l, pan, pan', next, next', env, w, X, h, hn, hp => by
    have step : ∀ (env1 : Env) (w1 : World) (X1 : XS), (∀ k, X k → X1 k) → (∀ s, ¬ s ∈ i.wr → env1 s = env s) → denL P pan next l env1 w1 X1 → denL P pan' next' l env1 w1 X1 := by
      intro env1 w1 X1 hX1 he1 h1
      refine denL_frame l h1 (fun e w' X' hX he hq => hn e w' X' (fun k hk => hX k (hX1 k hk)) (fun s hs => ?_) hq) (fun c e w' X' hX he hq => hp c e w' X' (fun k hk => hX k (hX1 k hk)) (fun s hs => ?_) hq)
      · simp only [List.flatMap_cons, List.mem_append, not_or] at hs
        rw [he s hs.2, he1 s hs.1]
      · simp only [List.flatMap_cons, List.mem_append, not_or] at hs
        rw [he s hs.2, he1 s hs.1]
    have pst : ∀ c w1 X1, (∀ k, X k → X1 k) → pan c env w1 X1 → pan' c env w1 X1 := fun c w1 X1 hX1 hq => hp c env w1 X1 hX1 (fun _ _ => rfl) hq
    have st1 : ∀ (d : Nat) (v : Value) (w1 : World) (X1 : XS), i.wr = [d] → (∀ k, X k → X1 k) → denL P pan next l (upd env d v) w1 X1 → denL P pan' next' l (upd env d v) w1 X1 :=
      fun d v w1 X1 hw hX1 h1 => step _ _ _ hX1 (fun s hs => upd_out (by rw [hw] at hs; simpa using hs)) h1
    have stO : ∀ (d : Option Nat) (v : Value) (w1 : World) (X1 : XS), i.wr = d.toList → (∀ k, X k → X1 k) → denL P pan next l (updO env d v) w1 X1 → denL P pan' next' l (updO env d v) w1 X1 :=
      fun d v w1 X1 hw hX1 h1 => step _ _ _ hX1 (fun s hs => updO_out (by rw [hw] at hs; exact hs)) h1
    cases i with
    | need b => exact chk_iff.2 ⟨(chk_iff.1 h).1, step _ _ _ (fun _ h => h) (fun _ _ => rfl) (chk_iff.1 h).2⟩
    | set d e => exact st1 d _ _ _ rfl (fun _ h => h) h
    | box b n e => exact chk_iff.2 ⟨(chk_iff.1 h).1, st1 b _ _ _ rfl (fun _ h => h) (chk_iff.1 h).2⟩
    | put b off n e =>
      have h2 := chk_iff.1 (chk_iff.1 h).2
      exact chk_iff.2 ⟨(chk_iff.1 h).1, chk_iff.2 ⟨h2.1, st1 b _ _ _ rfl (fun _ h => h) h2.2⟩⟩
    | box1 b e => exact chk_iff.2 ⟨(chk_iff.1 h).1, st1 b _ _ _ rfl (fun _ h => h) (chk_iff.1 h).2⟩
    | put1 b off e => exact chk_iff.2 ⟨(chk_iff.1 h).1, st1 b _ _ _ rfl (fun _ h => h) (chk_iff.1 h).2⟩
    | fill b n e =>
      have h2 := chk_iff.1 (chk_iff.1 h).2
      exact chk_iff.2 ⟨(chk_iff.1 h).1, chk_iff.2 ⟨h2.1, st1 b _ _ _ rfl (fun _ h => h) h2.2⟩⟩
    | rd d op ty ss =>
      obtain ⟨v, h1, h2⟩ := h
      exact ⟨v, h1, st1 d _ _ _ rfl (fun _ h => h) h2⟩
    | eff d op ty ss m => exact fun wa hwa => effW_mono (h wa hwa) (fun v w' X' hX hq => stO d v w' X' rfl hX hq) (fun c w' X' hX hq => pst c w' X' hX hq)
    | gset g want d e => exact st1 d _ _ _ rfl (fun _ h => h) h
    | grd g want d op ty ss =>
      obtain ⟨v, h1, h2, h3⟩ := h
      exact ⟨v, h1, h2, st1 d _ _ _ rfl (fun _ h => h) h3⟩
    | geff g want d op ty ss m =>
      exact ⟨fun hg wa hwa => effW_mono (h.1 hg wa hwa) (fun v w' X' hX hq => stO d v w' X' rfl hX hq) (fun c w' X' hX hq => pst c w' X' hX hq), fun hg => stO d _ _ _ rfl (fun _ h => h) (h.2 hg)⟩
theorem merge_in {M : List Nat} {e env : Env} {s : Nat} (h : s ∈ M) : merge M e env s = e s := by simp [merge, inL_iff.2 h]
theorem merge_out {M : List Nat} {e env : Env} {s : Nat} (h : ¬ s ∈ M) : merge M e env s = env s := by
  have : inL M s = false := by
    cases hx : inL M s with
    | false => rfl
    | true => exact absurd (inL_iff.1 hx) h
  simp [merge, this]
theorem den_frame : ∀ (t : T) {K K' : Post} {env : Env} {w : World} {X : XS}, den P t K env w X →
    (∀ ex e w' X', (∀ k, X k → X' k) → (∀ s, ¬ s ∈ t.wr → e s = env s) → K ex e w' X' → K' ex e w' X') → den P t K' env w X
  | .reg l, K, K', env, w, X, h, hk => denL_frame l h (fun e w' X' hX he hq => hk _ e w' X' hX he hq) (fun c e w' X' hX he hq => hk _ e w' X' hX he hq)
  | .seq a b, K, K', env, w, X, h, hk => by
    refine den_frame a (K := Post.thn (fun e w X => den P b K e w X) K) h fun ex e w' X' hX he hq => ?_
    have he' : ∀ s, ¬ s ∈ (T.seq a b).wr → e s = env s := fun s hs => he s (fun hc => hs (List.mem_append_left _ hc))
    cases ex with
    | normal =>
      refine den_frame b (K := K) hq fun ex2 e2 w2 X2 hX2 he2 hq2 => hk ex2 e2 w2 X2 (fun k hk => hX2 k (hX k hk)) (fun s hs => ?_) hq2
      rw [he2 s (fun hc => hs (List.mem_append_right _ hc)), he' s hs]
    | exit i => exact hk _ e w' X' hX he' hq
    | goto i => exact hk _ e w' X' hX he' hq
    | ret => exact hk _ e w' X' hX he' hq
    | panic c => exact hk _ e w' X' hX he' hq
    | outgrown => exact hk _ e w' X' hX he' hq
  | .ite c a b, K, K', env, w, X, h, hk => by
    simp only [den, condW] at h ⊢
    split at h
    · refine ⟨fun ht => den_frame a (h.1 ht) fun ex e w' X' hX he hq => hk ex e w' X' hX (fun s hs => he s (fun hc => hs (List.mem_append_left _ hc))) hq,
        fun ht => den_frame b (h.2 ht) fun ex e w' X' hX he hq => hk ex e w' X' hX (fun s hs => he s (fun hc => hs (List.mem_append_right _ hc))) hq⟩
    · exact h
  | .blk id a, K, K', env, w, X, h, hk => by
    refine den_frame a (K := Post.blk id K) h fun ex e w' X' hX he hq => ?_
    cases ex with
    | exit i =>
      simp only [Post.blk] at hq ⊢
      split
      · rename_i hi; rw [if_pos hi] at hq; exact hk _ e w' X' hX he hq
      · rename_i hi; rw [if_neg hi] at hq; exact hk _ e w' X' hX he hq
    | normal => exact hk _ e w' X' hX he hq
    | goto i => exact hk _ e w' X' hX he hq
    | ret => exact hk _ e w' X' hX he hq
    | panic c => exact hk _ e w' X' hX he hq
    | outgrown => exact hk _ e w' X' hX he hq
  | .loop M C a, K, K', env, w, X, h, hk => by
    obtain ⟨J, h0, hJ⟩ := h
    refine ⟨J, h0, fun n e w' X' hX hj => ?_⟩
    refine den_frame a (K := Post.thn (fun e' w'' X'' => ∃ m, m < n ∧ J m (C.map e') w'' X'') K) (hJ n e w' X' hX hj) fun ex e2 w2 X2 hX2 he2 hq => ?_
    have hsub : ∀ k, X k → X2 k := fun k hk => hX2 k (hX k hk)
    have he' : ∀ s, ¬ s ∈ (T.loop M C a).wr → e2 s = env s := fun s hs => by
      simp only [T.wr, List.mem_append, not_or] at hs
      rw [he2 s hs.2]
      exact merge_out hs.1
    cases ex with
    | normal => exact hq
    | exit i => exact hk _ e2 w2 X2 hsub he' hq
    | goto i => exact hk _ e2 w2 X2 hsub he' hq
    | ret => exact hk _ e2 w2 X2 hsub he' hq
    | panic c => exact hk _ e2 w2 X2 hsub he' hq
    | outgrown => exact hk _ e2 w2 X2 hsub he' hq
  | .exit id, K, K', env, w, X, h, hk => hk _ _ _ _ (fun _ h => h) (fun _ _ => rfl) h
  | .ret, K, K', env, w, X, h, hk => hk _ _ _ _ (fun _ h => h) (fun _ _ => rfl) h
  | .skip, K, K', env, w, X, h, hk => hk _ _ _ _ (fun _ h => h) (fun _ _ => rfl) h
theorem wp_loopN {Q : Exit → Act → World → Prop} {a : Act} {w : World} {c : Code} (I : Nat → Act → World → Prop) (h₀ : ∃ n, I n a w)
    (round : ∀ n a w, I n a w → c.wp P (Exit.then (fun a' w' => ∃ m, m < n ∧ I m a' w') Q) a w) : (Code.loop c).wp P Q a w := by
  intro b k cs
  have key : ∀ n a w, I n a w → ∃ e a' w', Q e a' w' ∧ Arrives P (lone (b.at a (.code c :: .inLoop c :: k)) cs w) b k cs e a' w' := by
    intro n
    induction n using Nat.strongRecOn with
    | _ n ih =>
      intro a w hI
      obtain ⟨e, a₁, w₁, hq, harr⟩ := round n a w hI b (.inLoop c :: k) cs
      cases e with
      | normal =>
        obtain ⟨m, hlt, hI₁⟩ := hq
        obtain ⟨e₂, a₂, w₂, hq₂, harr₂⟩ := ih m hlt a₁ w₁ hI₁
        exact ⟨e₂, a₂, w₂, hq₂, .of_steps (Steps.trans harr (.one step_inLoop)) harr₂⟩
      | exit id => exact ⟨_, a₁, w₁, hq, .pass (x := .inLoop c) rfl (fun _ _ => .inl (by simp)) harr⟩
      | goto l => exact ⟨_, a₁, w₁, hq, .pass (x := .inLoop c) rfl (fun _ _ => .inl (by simp)) harr⟩
      | ret => exact ⟨_, a₁, w₁, hq, .pass (x := .inLoop c) rfl (fun _ _ => .inl (by simp)) harr⟩
      | panic ch => exact ⟨_, a₁, w₁, hq, .pass (x := .inLoop c) rfl (fun _ _ => .inl (by simp)) harr⟩
      | outgrown => exact ⟨_, a₁, w₁, hq, .pass (x := .inLoop c) rfl (fun _ _ => .inl (by simp)) harr⟩
  obtain ⟨n, h₀⟩ := h₀
  obtain ⟨e, a', w', hq, harr⟩ := key n a w h₀
  exact ⟨e, a', w', hq, .of_steps (.one step_loop) harr⟩
end
def QP (pl : Plan) (ds : Bk) (K : Post) : Exit → Act → World → Prop
  | .panic ch, a, w => a.defers = ds.ds ∧ ∃ env X w0, Kp X w0 w ∧ K (.panic ch) env w0 X ∧ PinOK pl ds env X a w
  | .outgrown, _, _ => False
  | e, a, w => ∃ env X w0, Sim pl ds .start env X w0 a w ∧ K e env w0 X
section
variable {P : Program} {pl : Plan} {ds : Bk}
theorem Sim.drop {cs : CS} {env : Env} {X : XS} {w0 w : World} {a : Act} (h : Sim pl ds cs env X w0 a w) : Sim pl ds .start env X w0 a w :=
  { h with sig := fun _ hp => (by cases hp), live := fun _ hp => (by cases hp), ptr := fun _ hp => (by cases hp) }
theorem mem_addNew : ∀ (l acc : List Nat) (s : Nat), (s ∈ l ∨ s ∈ acc) → s ∈ addNew l acc
  | [], acc, s, h => h.elim (fun h => by cases h) id
  | x :: r, acc, s, h => by
    simp only [addNew]
    refine mem_addNew r _ s ?_
    rcases h with h | h
    · rcases List.mem_cons.1 h with rfl | h
      · right
        split
        · rename_i hc; simpa using hc
        · exact List.mem_cons_self ..
      · exact .inl h
    · right
      split
      · exact h
      · exact List.mem_cons_of_mem _ h
theorem QP.mono {K K' : Post} (h : ∀ ex e w X, K ex e w X → K' ex e w X) (ex : Exit) (a : Act) (w : World) (hq : QP pl ds K ex a w) : QP pl ds K' ex a w := by
  cases ex <;> simp only [QP] at hq ⊢
  case panic ch => obtain ⟨h1, env, X, w0, h2, h3, h4⟩ := hq; exact ⟨h1, env, X, w0, h2, h _ _ _ _ h3, h4⟩
  all_goals (obtain ⟨env, X, w0, h2, h3⟩ := hq; exact ⟨env, X, w0, h2, h _ _ _ _ h3⟩)
theorem code_ok : ∀ (c : Code) (t : T) (K : Post) (env : Env) (X : XS) (w0 : World) (a : Act) (w : World),
    cCode P pl c = some t → (∀ b, b ∈ t.mk → ∀ p, p ∈ ds.pins → p.1 ≠ b) → Sim pl ds .start env X w0 a w → den P t K env w0 X → c.wp P (QP pl ds K) a w := by
  intro c
  induction c with
  | skip =>
    intro t K env X w0 a w hc hm h hd
    simp only [cCode, Option.some.injEq] at hc
    subst hc
    exact wp_skip ⟨env, X, w0, h, hd⟩
  | region id ops draw =>
    intro t K env X w0 a w hc hm h hd
    have hN : ∀ cs' a' w' env' X' w0', Sim pl ds cs' env' X' w0' a' w' → (fun e w X => K .normal e w X) env' w0' X' → QP pl ds K .normal a' w' :=
      fun cs' a' w' env' X' w0' h1 h2 => ⟨env', X', w0', h1.drop, h2⟩
    have hQ : ∀ ch a' w' env' X' w0', a'.defers = ds.ds → Kp X' w0' w' → PinOK pl ds env' X' a' w' → (fun ch => K (.panic ch)) ch env' w0' X' → QP pl ds K (.panic ch) a' w' :=
      fun ch a' w' env' X' w0' h0 h1 hpin h2 => ⟨h0, env', X', w0', h1, h2, hpin⟩
    simp only [cCode] at hc
    split at hc
    · rename_i hdr
      subst hdr
      split at hc
      · rename_i hmx
        simp only [Bool.and_eq_true] at hmx
        cases hl : cDraw P pl ops ops.size (Array.replicate ops.size false) .start with
        | none => simp [hl] at hc
        | some tl =>
          simp only [hl, Option.map_some, Option.some.injEq] at hc
          subst hc
          refine wp_region_any hmx.1 (wpAny_of_G (pl := pl) _ _ _ _ ?_)
          refine draw_ok hN hQ (fun c a d v w hd hq => ?_) hmx.2 _ _ _ tl env X w0 _ _ hl hm (h.grew (Ext.drew w)) hd
          obtain ⟨h1, e, X', w0', h2, h3, h4⟩ := hq
          exact ⟨by cases d <;> exact h1, e, X', w0', h2, h3, h4.put hd⟩
      · cases hc
    · rename_i hdr
      simp only [Bool.not_eq_true] at hdr
      subst hdr
      cases hl : cSeq P pl ops ops.toList .start with
      | none => simp [hl] at hc
      | some tl =>
        simp only [hl, Option.map_some, Option.some.injEq] at hc
        subst hc
        exact wp_region_list (seq_ok hN hQ ops.toList .start tl env X w0 a w hl hm h hd)
  | seq x y ihx ihy =>
    intro t K env X w0 a w hc hm h hd
    simp only [cCode] at hc
    cases hx : cCode P pl x with
    | none => simp [hx] at hc
    | some tx =>
      cases hy : cCode P pl y with
      | none => simp [hx, hy] at hc
      | some ty =>
        simp only [hx, hy, Option.some.injEq] at hc
        have hd' : den P (.seq tx ty) K env w0 X := by
          subst hc
          split at hd
          · exact hd
          · show den P tx (Post.thn (fun e w X => den P .skip K e w X) K) env w0 X
            refine den_frame tx hd fun ex e w' X' _ _ hq => ?_
            cases ex <;> exact hq
          · exact hd
        have hmm : ∀ b, b ∈ tx.mk ∨ b ∈ ty.mk → ∀ p, p ∈ ds.pins → p.1 ≠ b := fun b hb => hm b (by
          rw [← hc]
          split
          · exact hb.resolve_left (fun h => by cases h)
          · exact hb.resolve_right (fun h => by cases h)
          · exact List.mem_append.2 hb)
        refine wp_seq (wp_mono (ihx tx _ env X w0 a w hx (fun b hb => hmm b (.inl hb)) h hd') fun ex a' w' hq => ?_)
        cases ex with
        | normal =>
          obtain ⟨e, X', w0', h1, h2⟩ := hq
          exact ihy ty K e X' w0' a' w' hy (fun b hb => hmm b (.inr hb)) h1 h2
        | exit i => exact hq
        | goto i => exact hq
        | ret => exact hq
        | panic c => exact hq
        | outgrown => exact hq
  | cond c x y ihx ihy =>
    intro t K env X w0 a w hc hm h hd
    simp only [cCode] at hc
    cases hv : valOf pl .start c with
    | none => simp [hv] at hc
    | some e =>
      cases hx : cCode P pl x with
      | none => simp [hv, hx] at hc
      | some tx =>
        cases hy : cCode P pl y with
        | none => simp [hv, hx, hy] at hc
        | some ty =>
          simp only [hv, hx, hy, Option.some.injEq] at hc
          subst hc
          have he := h.eval hv
          simp only [den, condW] at hd
          split at hd
          · rename_i b hb
            rw [hb] at he
            exact wp_cond_split he (fun ht => ihx tx K env X w0 a w hx (fun b hb => hm b (List.mem_append_left _ hb)) h (hd.1 ht)) (fun ht => ihy ty K env X w0 a w hy (fun b hb => hm b (List.mem_append_right _ hb)) h (hd.2 ht))
          · exact hd.elim
  | block id x ih =>
    intro t K env X w0 a w hc hm h hd
    simp only [cCode] at hc
    cases hx : cCode P pl x with
    | none => simp [hx] at hc
    | some tx =>
      simp only [hx, Option.map_some, Option.some.injEq] at hc
      subst hc
      refine wp_block (wp_mono (ih tx _ env X w0 a w hx hm h hd) fun ex a' w' hq => ?_)
      cases ex with
      | exit i =>
        obtain ⟨e, X', w0', h1, h2⟩ := hq
        simp only [Exit.inBlock, Post.blk] at h2 ⊢
        split
        · rename_i hi; rw [if_pos hi] at h2; exact ⟨e, X', w0', h1, h2⟩
        · rename_i hi; rw [if_neg hi] at h2; exact ⟨e, X', w0', h1, h2⟩
      | normal => exact hq
      | goto i => exact hq
      | ret => exact hq
      | panic c => exact hq
      | outgrown => exact hq
  | loop x ih =>
    intro t K env X w0 a w hc hm h hd
    simp only [cCode] at hc
    cases hx : cCode P pl x with
    | none => simp [hx] at hc
    | some tx =>
      simp only [hx, Option.map_some, Option.some.injEq] at hc
      subst hc
      obtain ⟨J, ⟨n0, h0⟩, hJ⟩ := hd
      refine wp_loopN (fun n a w => ∃ e X' w0', Sim pl ds .start (merge (addNew tx.wr []) e env) X' w0' a w ∧ (∀ k, X k → X' k) ∧ J n (((addNew tx.wr []).filter (inL pl.car)).map e) w0' X') ⟨n0, env, X, w0, ?_, fun _ h => h, h0⟩ ?_
      · have : merge (addNew tx.wr []) env env = env := by
          funext s
          by_cases hs : s ∈ addNew tx.wr []
          · exact merge_in hs
          · exact merge_out hs
        rw [this]; exact h
      · rintro n a w ⟨e, X', w0', h1, h2, h3⟩
        have hd1 := hJ n e w0' X' h2 h3
        have hd2 := den_frame tx (K' := fun ex e' w'' X'' => Post.thn (fun e' w'' X'' => ∃ m, m < n ∧ J m (((addNew tx.wr []).filter (inL pl.car)).map e') w'' X'') K ex e' w'' X'' ∧ (∀ k, X' k → X'' k) ∧ ∀ s, ¬ s ∈ tx.wr → e' s = merge (addNew tx.wr []) e env s) hd1
          fun ex e' w' X'' hX he hq => ⟨hq, hX, he⟩
        refine wp_mono (ih tx _ _ X' w0' a w hx hm h1 hd2) fun ex a' w' hq => ?_
        cases ex with
        | normal =>
          obtain ⟨e', X'', w0'', g1, ⟨m, hm, g2⟩, g3, g4⟩ := hq
          refine ⟨m, hm, e', X'', w0'', ?_, fun k hk => g3 k (h2 k hk), g2⟩
          have : merge (addNew tx.wr []) e' env = e' := by
            funext s
            by_cases hs : s ∈ addNew tx.wr []
            · exact merge_in hs
            · rw [merge_out hs, g4 s fun hc => hs (mem_addNew _ _ _ (.inl hc)), merge_out hs]
          rw [this]; exact g1
        | exit i => obtain ⟨e', X'', w0'', g1, g2, _⟩ := hq; exact ⟨e', X'', w0'', g1, g2⟩
        | goto i => obtain ⟨e', X'', w0'', g1, g2, _⟩ := hq; exact ⟨e', X'', w0'', g1, g2⟩
        | ret => obtain ⟨e', X'', w0'', g1, g2, _⟩ := hq; exact ⟨e', X'', w0'', g1, g2⟩
        | panic c => obtain ⟨g0, e', X'', w0'', g1, ⟨g2, _⟩, g3⟩ := hq; exact ⟨g0, e', X'', w0'', g1, g2, g3⟩
        | outgrown => exact hq
  | exit id =>
    intro t K env X w0 a w hc hm h hd
    simp only [cCode, Option.some.injEq] at hc
    subst hc
    exact wp_exit ⟨env, X, w0, h, hd⟩
  | ret =>
    intro t K env X w0 a w hc hm h hd
    simp only [cCode, Option.some.injEq] at hc
    subst hc
    exact wp_ret ⟨env, X, w0, h, hd⟩
  | rangeFunc => intro t K env X w0 a w hc; cases hc
  | scope => intro t K env X w0 a w hc; cases hc
  | label => intro t K env X w0 a w hc; cases hc
  | goto => intro t K env X w0 a w hc; cases hc
  | refuse => intro t K env X w0 a w hc; cases hc
def resF (tmps : Array Value) : ResultVar → Sem Value
  | .tmp t => pure (tmps.getD t undef)
  | .cell c t => do loadVar t (← asAddr (tmps.getD c undef))
theorem res_ok {env : Env} {X : XS} {w0 w : World} {a : Act} {cs : CS} (h : Sim pl ds cs env X w0 a w) : ∀ (l : List ResultVar) (es : List Ex) (nd : List Nat),
    cRes P pl l = some (es, nd) → (∀ b, b ∈ nd → isA (env b) = true) →
    (l.mapM (resF a.tmps)).run P w = Result.ok (es.map (·.ev env)) w
  | [], es, nd, hc, _ => by
    simp only [cRes, Option.some.injEq, Prod.mk.injEq] at hc
    rw [← hc.1]
    rfl
  | .tmp t :: r, es, nd, hc, hl => by
    simp only [cRes] at hc
    split at hc
    · rename_i hg
      cases hr : cRes P pl r with
      | none => simp [hr] at hc
      | some x =>
        obtain ⟨es', nd'⟩ := x
        simp only [hr, Option.map_some, Option.some.injEq, Prod.mk.injEq] at hc
        obtain ⟨rfl, rfl⟩ := hc
        have ih := res_ok h r es' nd' hr hl
        simp [List.mapM_cons, resF, ih, h.glob t hg, Ex.ev]
    · cases hc
  | .cell c t :: r, es, nd, hc, hl => by
    simp only [cRes] at hc
    split at hc
    · rename_i bs ag sz hb ht
      split at hc
      · rename_i hcond
        simp only [Bool.and_eq_true, decide_eq_true_eq] at hcond
        cases hr : cRes P pl r with
        | none => simp [hr] at hc
        | some x =>
          obtain ⟨es', nd'⟩ := x
          simp only [hr, Option.map_some, Option.some.injEq, Prod.mk.injEq] at hc
          obtain ⟨rfl, rfl⟩ := hc
          have ih := res_ok h r es' nd' hr fun b hb => hl b (List.mem_cons_of_mem _ hb)
          obtain ⟨cells, hcl⟩ := isA_iff.1 (hl c (List.mem_cons_self ..))
          obtain ⟨k, ty, e1, e2, e3, _⟩ := h.box c bs hb cells hcl
          have hld := run_loadAt ht hcond.2 e2 0 (by omega)
          have hld' : (loadVar t ⟨k, 0, none⟩).run P w = .ok (if ag then subOf (.agg cells) 0 sz else cellOf (.agg cells) 0) w := by
            simpa [Instr.loadAt, Instr.sureAddr, ptrV] using hld
          have hev : (if ag then Ex.s c 0 sz else Ex.k c 0).ev env = if ag then subOf (.agg cells) 0 sz else cellOf (.agg cells) 0 := by
            cases ag <;> simp [Ex.ev, hcl]
          simp [List.mapM_cons, resF, ih, e1, ptrV, asAddr, hld', hev]
      · cases hc
    · cases hc
theorem res_run {env : Env} {X : XS} {w0 w : World} {a : Act} {cs : CS} (h : Sim pl ds cs env X w0 a w) {fn : Func} {es : List Ex} {nd : List Nat}
    (hc : cRes P pl fn.results.toList = some (es, nd)) (hl : ∀ b, b ∈ nd → isA (env b) = true) : (results fn a.tmps).run P w = .ok (resV es env) w := by
  have hr := res_ok h _ _ _ hc hl
  have hf : results fn a.tmps = (do let vs ← fn.results.mapM (resF a.tmps); pure (if h : vs.size = 1 then vs[0] else .tuple vs)) := by
    unfold results
    congr 2
  rw [hf, Array.mapM_eq_mapM_toList]
  simp only [Sem.run_bind, Sem.run_map, hr, Result.andThen_ok, Sem.run_pure]
  congr 1
  match es with
  | [] => rfl
  | [e] => rfl
  | e :: e' :: r => simp [resV]
def denO (P : Program) (o : Option FT) (R : Ending → World → Prop) (args : Array Value) (w : World) : Prop := match o with
  | some ft => den P ft.code (endK ft R) (args0 args) w (old w)
  | none => False
theorem calls_of_den {f : FuncId} {fn : Func} {pl : Plan} {ft : FT} {args : Array Value} {w : World} {R : Ending → World → Prop} (hf : P.funcs[f]? = some fn)
    (hc : cF P pl fn = some ft) (hargs : args.size ≤ pl.n) (hbox : (pl.boxes.all fun p => decide (args.size ≤ p.1)) = true)
    (h : den P ft.code (endK ft R) (args0 args) w (old w)) : Calls P f args w R := by
  unfold cF at hc
  split at hc
  · rename_i hn
    have hn' : fn.ntmps = pl.n := by simpa using hn
    split at hc
    · rename_i c hb
      split at hc
      · rename_i t r nd hcode hres
        injection hc with hc
        subst hc
        refine calls_of_wp hf hb (wp_mono (code_ok (pl := pl) (ds := ⟨[], []⟩) c t (endK ⟨t, r, nd⟩ R) (args0 args) (old w) w _ w hcode (fun _ _ _ hp => by cases hp) ?_ h) fun ex a' w' hq => ?_)
        · have hsize : (args ++ Array.replicate (fn.ntmps - args.size) undef).size = pl.n := by simp; omega
          have hget : ∀ s, s < pl.n → (args ++ Array.replicate (fn.ntmps - args.size) undef)[s]? = some (args0 args s) := by
            intro s hs
            rw [Array.getElem?_append]
            split
            · rename_i h1
              simp [args0, List.getD, h1]
            · rename_i h1
              rw [Array.getElem?_replicate, if_pos (by omega)]
              simp only [args0, List.getD]
              rw [List.getElem?_eq_none (by simpa using h1)]
              rfl
          have hnobox : ∀ b n, look pl.boxes b = some n → args0 args b = undef := by
            intro b n hb
            have h1 := List.all_eq_true.1 hbox _ (look_mem hb)
            simp only [decide_eq_true_eq] at h1
            simp only [args0, List.getD]
            rw [List.getElem?_eq_none (by simpa using h1)]
            rfl
          exact {
            size := hsize
            defers := rfl
            pin := fun _ hp => (by cases hp)
            ext := Kp.refl _ _
            xlt := fun _ hk => hk
            glob := fun s hs => hget s (isGlob_spec hs).1
            sig := fun _ hp => (by cases hp)
            box := fun b n hb cells hc => by rw [hnobox b n hb] at hc; cases hc
            inj := fun b b' n n' hb hb' h1 => by rw [hnobox b n hb] at h1; cases h1
            conv := fun b n hb k hk => by
              have h1 := List.all_eq_true.1 hbox _ (look_mem hb)
              simp only [decide_eq_true_eq] at h1
              rw [Array.getElem?_append, if_neg (by omega), Array.getElem?_replicate] at hk
              split at hk
              · cases hk
              · cases hk
            live := fun _ hp => (by cases hp)
            ptr := fun _ hp => (by cases hp) }
        · cases ex with
          | normal =>
            obtain ⟨e, X', w0', h1, hq⟩ := hq
            obtain ⟨h2, h3⟩ := chk_iff.1 hq
            exact ⟨h1.defers, _, res_run h1 hres (List.all_eq_true.1 h2), h3 w' h1.ext⟩
          | ret =>
            obtain ⟨e, X', w0', h1, hq⟩ := hq
            obtain ⟨h2, h3⟩ := chk_iff.1 hq
            exact ⟨h1.defers, _, res_run h1 hres (List.all_eq_true.1 h2), h3 w' h1.ext⟩
          | panic ch =>
            obtain ⟨h0, e, X', w0', h1, h2, _⟩ := hq
            exact ⟨h0, h2 w' h1⟩
          | exit i => obtain ⟨e, X', w0', h1, h2⟩ := hq; exact h2
          | goto i => obtain ⟨e, X', w0', h1, h2⟩ := hq; exact h2
          | outgrown => exact hq.elim
      · cases hc
    · cases hc
  · cases hc
theorem calls_of_vc {f : FuncId} {fn : Func} {pl : Plan} {args : Array Value} {w : World} {R : Ending → World → Prop} {V : Prop} (hf : P.funcs[f]? = some fn)
    (hs : (decide (args.size ≤ pl.n) && pl.boxes.all fun p => decide (args.size ≤ p.1)) = true) (hv : V = denO P (cF P pl fn) R args w) (h : V) : Calls P f args w R := by
  subst hv
  unfold denO at h
  simp only [Bool.and_eq_true, decide_eq_true_eq] at hs
  split at h
  · rename_i ft hc
    exact calls_of_den hf hc hs.1 hs.2 h
  · exact h.elim
end
end Go.Eng
namespace Go.Eng
def rdW (P : Program) (X : XS) (w : World) (s : Sem Next) (N : Value → Prop) : Prop := ∃ v, Rd P X w s v ∧ N v
def rdV (P : Program) (X : XS) (w : World) (s : Sem Value) (N : Value → Prop) : Prop := rdW P X w (vS s) N
def grdW (P : Program) (X : XS) (w : World) (g : Value) (want : Bool) (s : Sem Next) (N : Value → Prop) : Prop :=
  ∃ v, (gWant g want = true → Rd P X w s v) ∧ (gWant g want = false → v = undef) ∧ N v
def gSel (g : Value) (want : Bool) (v : Value) : Value := if gWant g want then v else undef
def pickN (c a b : Value) : Sem Next := do pure (.value (if ← asBool c then a else b))
def nilN (x : Value) : Sem Next := execOp (fun _ => x) (mkOp (.nilCheck (.tmp 0)) 0)
def binS (op : BinOp) (t : TypeId) (xo yo : Operand) (x y : Value) : Sem Value := do eqGuard op t xo yo x y; binOp op t x y
def uS (s : Sem Unit) : Sem Next := do s; pure .skip
def pn (R : Ending → World → Prop) : List PanicEntry → World → XS → Prop := fun ch w X => ∀ wa, Kp X w wa → R (.panicked ch) wa
def eW (P : Program) (R : Ending → World → Prop) (X : XS) (w : World) (m : Bool) (s : Sem Next) (N : Value → World → XS → Prop) : Prop :=
  ∀ wa, Kp X w wa → effW P m X wa N (pn R) (s.run P wa)
def eV (P : Program) (R : Ending → World → Prop) (X : XS) (w : World) (m : Bool) (s : Sem Value) (N : Value → World → XS → Prop) : Prop := eW P R X w m (vS s) N
def eU (P : Program) (R : Ending → World → Prop) (X : XS) (w : World) (m : Bool) (s : Sem Unit) (N : Value → World → XS → Prop) : Prop := eW P R X w m (uS s) N
def eC (P : Program) (R : Ending → World → Prop) (X : XS) (w : World) (m : Bool) (f : FuncId) (args : Array Value) (N : Value → World → XS → Prop) : Prop := eW P R X w m (callFunc f args) N
def eF (P : Program) (R : Ending → World → Prop) (X : XS) (w : World) (m : Bool) (f : Value) (args : Array Value) (N : Value → World → XS → Prop) : Prop := eW P R X w m (callV f args) N
def gE (g : Value) (want : Bool) (A B : Prop) : Prop := (gWant g want = true → A) ∧ (gWant g want = false → B)
def fin (R : Ending → World → Prop) (X : XS) (w : World) (v : Value) : Prop := ∀ wa, Kp X w wa → R (.returned v) wa
abbrev JT := Nat → List Value → World → XS → Prop
def nxt (J : JT) (n : Nat) (vs : List Value) (w : World) (X : XS) : Prop := ∃ m, m < n ∧ J m vs w X
def lpW (X : XS) (w : World) (vs : List Value) (C : List Nat) (B : JT → Nat → Env → World → XS → Prop) : Prop :=
  ∃ J : JT, (∃ n, J n vs w X) ∧ ∀ n (e : Env) w' X', (∀ k, X k → X' k) → J n (C.map e) w' X' → B J n e w' X'
end Go.Eng
namespace Go.Eng
variable {P : Program} {R : Ending → World → Prop} {X : XS} {w : World} {m : Bool}
theorem rdV_of {s : Sem Value} {N : Value → Prop} (v : Value) (h : ∀ wa, Kp X w wa → s.run P wa = .ok v wa) (k : N v) : rdV P X w s N :=
  ⟨v, fun wa hk => by simp [vS, h wa hk], k⟩
theorem rdV_pure {s : Sem Value} {N : Value → Prop} {v : Value} (h : ∀ wa, s.run P wa = .ok v wa) (k : N v) : rdV P X w s N :=
  rdV_of v (fun wa _ => h wa) k
theorem rdW_pure {s : Sem Next} {N : Value → Prop} {v : Value} (h : ∀ wa, s.run P wa = .ok (.value v) wa) (k : N v) : rdW P X w s N :=
  ⟨v, fun wa _ => h wa, k⟩
theorem beq_dec {α : Type} [BEq α] [LawfulBEq α] [DecidableEq α] (a b : α) : (a == b) = decide (a = b) := by
  by_cases h : a = b <;> simp [h]
section
variable {N : Value → Prop} {t : TypeId} {k : IntKind} {a b : Int} {xo yo : Operand}
theorem rdV_lss (h : N (.bool (decide (a < b)))) : rdV P X w (binOp .lss t (.int k a) (.int k b)) N := rdV_pure (fun wa => by simp [binOp, Op.intCmp]) h
theorem rdV_leq (h : N (.bool (decide (a ≤ b)))) : rdV P X w (binOp .leq t (.int k a) (.int k b)) N := rdV_pure (fun wa => by simp [binOp, Op.intCmp]) h
theorem rdV_gtr (h : N (.bool (decide (a > b)))) : rdV P X w (binOp .gtr t (.int k a) (.int k b)) N := rdV_pure (fun wa => by simp [binOp, Op.intCmp]) h
theorem rdV_geq (h : N (.bool (decide (a ≥ b)))) : rdV P X w (binOp .geq t (.int k a) (.int k b)) N := rdV_pure (fun wa => by simp [binOp, Op.intCmp]) h
theorem rdV_add (h : N (.int k (k.wrap (a + b)))) : rdV P X w (binOp .add t (.int k a) (.int k b)) N := rdV_pure (fun wa => by simp [binOp, Op.intArith]) h
theorem rdV_sub (h : N (.int k (k.wrap (a - b)))) : rdV P X w (binOp .sub t (.int k a) (.int k b)) N := rdV_pure (fun wa => by simp [binOp, Op.intArith]) h
theorem rdV_mul (h : N (.int k (k.wrap (a * b)))) : rdV P X w (binOp .mul t (.int k a) (.int k b)) N := rdV_pure (fun wa => by simp [binOp, Op.intArith]) h
theorem rdV_eql (h : N (.bool (decide (a = b)))) : rdV P X w (binS .eql t xo yo (.int k a) (.int k b)) N :=
  rdV_pure (fun wa => by simp [binS, eqGuard, binOp, Op.intCmp, beq_dec]) h
theorem rdV_neq (h : N (.bool (decide (a ≠ b)))) : rdV P X w (binS .neq t xo yo (.int k a) (.int k b)) N :=
  rdV_pure (fun wa => by simp [binS, eqGuard, binOp, Op.intCmp, bne, beq_dec]) h
end
section
variable {N : Value → Prop} {t : TypeId} {a b : ByteArray} {xo yo : Operand}
theorem rdV_seql (h : N (.bool (decide (a.toList = b.toList)))) : rdV P X w (binS .eql t xo yo (.string a) (.string b)) N :=
  rdV_pure (fun wa => by simp [binS, eqGuard, binOp, Op.stringOp, beq_dec]) h
theorem rdV_sneq (h : N (.bool (decide (a.toList ≠ b.toList)))) : rdV P X w (binS .neq t xo yo (.string a) (.string b)) N :=
  rdV_pure (fun wa => by simp [binS, eqGuard, binOp, Op.stringOp, beq_dec]) h
theorem rdV_slss (h : N (.bool (Op.bytesLess a.toList b.toList))) : rdV P X w (binOp .lss t (.string a) (.string b)) N :=
  rdV_pure (fun wa => by simp [binOp, Op.stringOp]) h
theorem rdV_sgeq (h : N (.bool (!Op.bytesLess a.toList b.toList))) : rdV P X w (binOp .geq t (.string a) (.string b)) N :=
  rdV_pure (fun wa => by simp [binOp, Op.stringOp]) h
theorem rdV_sleq (h : N (.bool (Op.bytesLess a.toList b.toList || decide (a.toList = b.toList)))) : rdV P X w (binOp .leq t (.string a) (.string b)) N :=
  rdV_pure (fun wa => by simp [binOp, Op.stringOp, beq_dec]) h
end
section
variable {N : Value → Prop} {t : TypeId} {k : FloatKind} {a b : Nat} {xo yo : Operand}
theorem rdV_flss (h : N (.bool (k.format.order a b == some .lt))) : rdV P X w (binOp .lss t (.float k a) (.float k b)) N := rdV_pure (fun wa => by simp [binOp, Op.floatCmp]) h
theorem rdV_fleq (h : N (.bool (k.format.order a b == some .lt || k.format.order a b == some .eq))) : rdV P X w (binOp .leq t (.float k a) (.float k b)) N :=
  rdV_pure (fun wa => by simp [binOp, Op.floatCmp]) h
theorem rdV_fgtr (h : N (.bool (k.format.order a b == some .gt))) : rdV P X w (binOp .gtr t (.float k a) (.float k b)) N := rdV_pure (fun wa => by simp [binOp, Op.floatCmp]) h
theorem rdV_fgeq (h : N (.bool (k.format.order a b == some .gt || k.format.order a b == some .eq))) : rdV P X w (binOp .geq t (.float k a) (.float k b)) N :=
  rdV_pure (fun wa => by simp [binOp, Op.floatCmp]) h
theorem rdV_fneq (h : N (.bool (k.format.order a b != some .eq))) : rdV P X w (binS .neq t xo yo (.float k a) (.float k b)) N :=
  rdV_pure (fun wa => by simp [binS, eqGuard, binOp, Op.floatCmp]) h
end
section
variable {N : Value → Prop} {t : TypeId} {k k2 : IntKind} {a b : Int}
theorem rdV_shr (hb : ¬ b < 0) (h : N (.int k (a.fdiv (2 ^ min b.toNat k.bits)))) : rdV P X w (binOp .shr t (.int k a) (.int k2 b)) N :=
  rdV_pure (fun wa => by simp [binOp, Op.shift, hb]) h
theorem rdV_shl (hb : ¬ b < 0) (h : N (.int k (k.wrap (a * 2 ^ min b.toNat k.bits)))) : rdV P X w (binOp .shl t (.int k a) (.int k2 b)) N :=
  rdV_pure (fun wa => by simp [binOp, Op.shift, hb]) h
theorem rdV_xor (h : N (.int k (k.wrap (BitVec.ofInt k.bits a ^^^ BitVec.ofInt k.bits b).toNat))) : rdV P X w (binOp .xor t (.int k a) (.int k b)) N :=
  rdV_pure (fun wa => by simp [binOp, Op.intBits]) h
theorem rdV_and (h : N (.int k (k.wrap (BitVec.ofInt k.bits a &&& BitVec.ofInt k.bits b).toNat))) : rdV P X w (binOp .and t (.int k a) (.int k b)) N :=
  rdV_pure (fun wa => by simp [binOp, Op.intBits]) h
end
section
variable {N : Value → Prop} {b c : Bool} {g : Value}
theorem rdV_not (h : N (.bool (!b))) : rdV P X w (Op.unary .not (.bool b)) N := rdV_pure (fun wa => by simp [Op.unary]) h
theorem rdW_pick {x y : Value} (h : N (if b then x else y)) : rdW P X w (pickN (.bool b) x y) N := rdW_pure (fun wa => by simp [pickN, asBool]) h
theorem rdW_pickT {x y : Value} (h : N x) : rdW P X w (pickN (.bool true) x y) N := rdW_pick h
theorem rdW_pickF {x y : Value} (h : N y) : rdW P X w (pickN (.bool false) x y) N := rdW_pick h
theorem grdW_on {s : Sem Next} {want : Bool} (h : rdW P X w s N) : grdW P X w (.bool want) want s N := by
  obtain ⟨v, hv, hn⟩ := h
  exact ⟨v, fun _ => hv, fun hf => absurd hf (by simp [gWant]), hn⟩
theorem grdW_off {s : Sem Next} {want : Bool} (h : N undef) : grdW P X w (.bool (!want)) want s N :=
  ⟨undef, fun hf => absurd hf (by cases want <;> simp [gWant]), fun _ => rfl, h⟩
theorem grdW_onT {s : Sem Next} (h : rdW P X w s N) : grdW P X w (.bool true) true s N := grdW_on h
theorem grdW_onF {s : Sem Next} (h : rdW P X w s N) : grdW P X w (.bool false) false s N := grdW_on h
theorem grdW_offT {s : Sem Next} (h : N undef) : grdW P X w (.bool false) true s N := grdW_off (want := true) h
theorem grdW_offF {s : Sem Next} (h : N undef) : grdW P X w (.bool true) false s N := grdW_off (want := false) h
theorem condW_b {A B : Prop} (h : b = true → A) (k : b = false → B) : condW (.bool b) A B := ⟨h, k⟩
theorem gE_b {want : Bool} {A B : Prop} (h : b = want → A) (k : b = !want → B) : gE (.bool b) want A B :=
  ⟨fun e => h (by simpa [gWant] using e), fun e => k (by revert e; cases b <;> cases want <;> simp [gWant])⟩
theorem gE_T {A B : Prop} (h : A) : gE (.bool true) true A B := gE_b (fun _ => h) (by simp)
theorem gE_F {A B : Prop} (h : A) : gE (.bool false) false A B := gE_b (fun _ => h) (by simp)
theorem gE_TF {A B : Prop} (h : B) : gE (.bool true) false A B := gE_b (by simp) (fun _ => h)
theorem gE_FT {A B : Prop} (h : B) : gE (.bool false) true A B := gE_b (by simp) (fun _ => h)
theorem rdV_extract {vs : Array Value} {i : Nat} {v : Value} (hi : vs[i]? = some v) (h : N v) : rdV P X w (Instr.extract (.tuple vs) i) N :=
  rdV_pure (fun wa => by simp [Instr.extract, hi]) h
theorem rdW_nil {a : Addr} (h : N (.pointer (some a))) : rdW P X w (nilN (.pointer (some a))) N :=
  rdW_pure (fun _ => rfl) h
theorem rdV_pnil {t e : TypeId} {xo yo : Operand} {p : Option Addr} (ht : P.underlying t = some (.pointer e)) (h : N (.bool p.isNone)) :
    rdV P X w (binS .eql t xo yo (.pointer p) (.pointer none)) N := by
  refine rdV_pure (fun wa => ?_) h
  have hp : P.pointee t = e := by simp [Program.pointee, ht]
  have := run_equal_pointer_nil (P := P) (w := wa) t p (by rw [hp]; exact ht)
  simp [binS, eqGuard, binOp, this]
end
theorem eC_ext {f : FuncId} {args : Array Value} {N : Value → World → XS → Prop} (Q : Value → World → World → Prop)
    (hf : ∀ wa, (callFunc f args).run P wa = .ok (.enter f args) wa)
    (h : ∀ wa, Kp X w wa → Calls P f args wa fun e w' => ∃ v, e = .returned v ∧ Ext wa w' ∧ Q v wa w')
    (k : ∀ v wa w', Kp X w wa → Ext wa w' → Q v wa w' → N v w' (grow X wa w')) : eC P R X w m f args N := by
  intro wa hk
  unfold effW; rw [hf wa]
  refine ⟨rfl, (h wa hk).mono ?_⟩
  rintro e w' ⟨v, rfl, hx, hq⟩
  exact ⟨Step.of_ext hx, k v wa w' hk hx hq⟩
end Go.Eng
namespace Go.Eng
structure Since (X : XS) (w : World) (X' : XS) (w' : World) : Prop where
  kp : Kp X w w'
  sub : ∀ k, X k → X' k
  has : ∀ k, X' k → k < w'.heap.size
theorem Since.init (w : World) : Since (old w) w (old w) w := ⟨Kp.refl _ _, fun _ h => h, fun _ h => h⟩
theorem Since.trans {X Y Z : XS} {a b c : World} (h : Since X a Y b) (k : Since Y b Z c) : Since X a Z c :=
  ⟨h.kp.trans (k.kp.less h.sub), fun i hi => k.sub i (h.sub i hi), k.has⟩
theorem Since.of_ext {X : XS} {w wa w' : World} (hX : ∀ k, X k → k < w.heap.size) (hk : Kp X w wa) (hx : Ext wa w') : Since X w (grow X wa w') w' :=
  ⟨hk.trans (hx.kp fun k h => Nat.lt_of_lt_of_le (hX k h) hk.size), fun _ h => .inl h,
    fun k h => h.elim (fun h => Nat.lt_of_lt_of_le (hX k h) (Nat.le_trans hk.size hx.size)) (fun h => h.2)⟩
theorem Since.ext {w w' : World} {X : XS} (h : Since (old w) w X w') {wa : World} (hk : Kp X w' wa) : Ext w wa := (h.kp.trans (hk.less h.sub)).ext
variable {P : Program} {R : Ending → World → Prop} {X : XS} {w : World} {m : Bool}
def Pure (P : Program) (f : FuncId) (args : Array Value) (v : Value) : Prop :=
  ∀ w, Calls P f args w fun e w' => e = .returned v ∧ Ext w w'
def Gives (P : Program) (f : FuncId) (args : Array Value) (w : World) (Q : Value → World → Prop) : Prop :=
  Calls P f args w fun e w' => ∃ v, e = .returned v ∧ Ext w w' ∧ Q v w'
def enters (P : Program) (f : FuncId) : Bool := match P.funcs[f]? with
  | some fn => !(fn.name == "runtime.NumGoroutine") && fn.body.isSome
  | none => false
theorem run_enters {f : FuncId} (h : enters P f = true) (args : Array Value) (w : World) : (callFunc f args).run P w = .ok (.enter f args) w := by
  unfold enters at h
  split at h
  · rename_i fn hf
    simp only [Bool.and_eq_true, Bool.not_eq_true'] at h
    obtain ⟨c, hb⟩ := Option.isSome_iff_exists.1 h.2
    have hn : ¬ fn.name = "runtime.NumGoroutine" := by simpa using h.1
    simp [callFunc, hf, hn, hb]
  · cases h
theorem eC_gives {f : FuncId} {args : Array Value} {N : Value → World → XS → Prop} {Q : Value → World → World → Prop}
    (hf : enters P f = true) (hX : ∀ k, X k → k < w.heap.size)
    (h : ∀ wa, Kp X w wa → Gives P f args wa (Q · wa))
    (k : ∀ v wa w' X', Kp X w wa → Ext wa w' → (∀ k, wa.heap.size ≤ k → k < w'.heap.size → X' k) → Q v wa w' → Since X w X' w' → N v w' X') :
    eC P R X w m f args N := by
  refine eC_ext Q (run_enters hf args) (fun wa hk => ?_) fun v wa w' hk hx hq => k v wa w' _ hk hx (fun k h1 h2 => .inr ⟨h1, h2⟩) hq (Since.of_ext hX hk hx)
  refine (h wa hk).mono ?_
  rintro e w' ⟨v, he, hx, hq⟩
  exact ⟨v, he, hx, hq⟩
theorem eC_pure {f : FuncId} {args : Array Value} {v : Value} {N : Value → World → XS → Prop}
    (hf : enters P f = true) (hX : ∀ k, X k → k < w.heap.size) (h : Pure P f args v)
    (k : ∀ w' X', Since X w X' w' → N v w' X') : eC P R X w m f args N := by
  refine eC_gives (Q := fun u _ _ => u = v) hf hX (fun wa _ => (h wa).mono ?_) fun u wa w' X' _ _ _ hq hs => hq ▸ k w' X' hs
  rintro e w' ⟨he, hx⟩
  exact ⟨v, he, hx, rfl⟩
theorem eC_val {f : FuncId} {args : Array Value} {v : Value} {N : Value → World → XS → Prop} (hf : ∀ wa, (callFunc f args).run P wa = .ok (.value v) wa)
    (hX : ∀ k, X k → k < w.heap.size) (k : ∀ w' X', Since X w X' w' → N v w' X') : eC P R X w m f args N := by
  intro wa hk
  unfold effW; rw [hf wa]
  exact ⟨Step.of_ext (Ext.refl _), k _ _ (Since.of_ext hX hk (Ext.refl _))⟩
theorem fin_pure {w0 : World} {u v : Value} (hs : Since (old w0) w0 X w) (h : u = v) : fin (fun e w' => e = .returned v ∧ Ext w0 w') X w u :=
  fun _ hk => ⟨by rw [h], hs.ext hk⟩
end Go.Eng
namespace Go.Eng
variable {P : Program} {R : Ending → World → Prop} {X : XS} {w : World} {m : Bool} {N : Value → Prop}
abbrev ptr (b o : Nat) : Value := .pointer (some ⟨b, o, none⟩)
def Cells (w : World) (X : XS) (b o : Nat) (l : List Value) : Prop :=
  X b ∧ ∃ cs t fr, w.heap[b]? = some (.cells cs t fr) ∧ ∀ j v, l[j]? = some v → cs[o + j]? = some v
theorem Cells.kp {b o : Nat} {l : List Value} (h : Cells w X b o l) {w' : World} (hk : Kp X w w') : Cells w' X b o l := by
  obtain ⟨hx, cs, t, fr, hb, hc⟩ := h
  exact ⟨hx, cs, t, fr, by rw [hk.block b hx]; exact hb, hc⟩
theorem Cells.mono {b o : Nat} {l : List Value} {Y : XS} (h : Cells w X b o l) (hs : ∀ k, X k → Y k) : Cells w Y b o l := ⟨hs _ h.1, h.2⟩
theorem Cells.since {b o : Nat} {l : List Value} {Y : XS} {w' : World} (h : Cells w X b o l) (hs : Since X w Y w') : Cells w' Y b o l := (h.kp hs.kp).mono hs.sub
theorem Cells.range {b o : Nat} {l : List Value} (h : Cells w X b o l) : w.rangeAt b o l := by
  obtain ⟨_, cs, t, fr, hb, hc⟩ := h
  intro j v hj
  rw [cell_of_row w b (o + j) cs t fr hb]
  exact hc j v hj
theorem Cells.lt {b o : Nat} {l : List Value} (h : Cells w X b o l) : b < w.heap.size := by
  obtain ⟨_, cs, t, fr, hb, _⟩ := h
  exact (Array.getElem?_eq_some_iff.1 hb).1
theorem Cells.part {b o : Nat} {l : List Value} (h : Cells w X b o l) (i n : Nat) : Cells w X b (o + i) ((l.drop i).take n) := by
  obtain ⟨hx, cs, t, fr, hb, hc⟩ := h
  refine ⟨hx, cs, t, fr, hb, fun j v hj => ?_⟩
  rw [List.getElem?_take] at hj
  split at hj
  · rw [List.getElem?_drop] at hj
    rw [Nat.add_assoc]; exact hc _ v hj
  · cases hj
theorem rdV_load1 {t : TypeId} {b o : Nat} {v : Value} {l : List Value} (h : Cells w X b o (v :: l)) (hi : tyInfo P t = some (false, 1)) (k : N v) :
    rdV P X w (Instr.loadAt t (ptr b o)) N := by
  refine rdV_of v (fun wa hk => ?_) k
  have hc : wa.cell? ⟨b, o, none⟩ = some v := (h.kp hk).range 0 v rfl
  unfold tyInfo at hi
  split at hi
  · rename_i d i hu hi'
    simp only [Option.some.injEq, Prod.mk.injEq] at hi
    have hagg : (isAgg t).run P wa = .ok false wa := by
      cases d <;> simp_all [isAgg, run_underlying hu]
    simp [Instr.loadAt, Instr.sureAddr, loadVar, hagg, hc]
  · cases hi
theorem rdV_loadN {t : TypeId} {b o n : Nat} {l : List Value} (h : Cells w X b o l) (hi : tyInfo P t = some (true, n)) (hn : l.length = n) (k : N (.agg l.toArray)) :
    rdV P X w (Instr.loadAt t (ptr b o)) N := by
  refine rdV_of _ (fun wa hk => ?_) k
  unfold tyInfo at hi
  split at hi
  · rename_i d i hu hi'
    simp only [Option.some.injEq, Prod.mk.injEq] at hi
    exact run_loadAt_mid wa b o t l d (h.kp hk).range hu (by cases d <;> simp_all) (by simp [hi', hi.2, hn])
  · cases hi
theorem rdV_fieldAt {S f fo sz b o : Nat} (h : fieldInfo P S f = some (fo, sz)) (hz : sz ≠ 0) (k : N (ptr b (o + fo))) : rdV P X w (Instr.fieldAt S (ptr b o) f) N :=
  rdV_pure (fun wa => run_fieldAt h hz b o wa) k
theorem rdV_build {t : TypeId} {parts : Array (Nat × Value)} (cells : Array Value) (h : P.built t parts.toList = some cells) (k : N (.agg cells)) :
    rdV P X w (Instr.build t parts) N :=
  rdV_pure (fun wa => run_build wa t parts cells h) k
theorem rdV_slen {t ty : TypeId} {s : ByteArray} (ht : P.underlying t = some .string) (k : N (.int .i64 s.size)) : rdV P X w (Builtin.len_ #[t] ty #[.string s]) N :=
  rdV_pure (fun wa => by simp [Builtin.len_, run_underlying ht, goInt]) k
def Sl (w : World) (X : XS) (k : Nat) (v : Value) (rows : List (List Value)) : Prop :=
  (∀ r ∈ rows, r.length = k) ∧ rows.length ≤ 2 ^ 63 - 1 ∧
  ∃ base cap, v = .slice base rows.length cap ∧ (rows ≠ [] → ∃ b o, base = some ⟨b, o, none⟩ ∧ Cells w X b o rows.flatten) ∧
    (base = none → cap = 0) ∧ rows.length ≤ cap ∧ cap ≤ 2 ^ 63 - 1
theorem Sl.mono {k : Nat} {v : Value} {rows : List (List Value)} {Y : XS} (h : Sl w X k v rows) (hs : ∀ k, X k → Y k) : Sl w Y k v rows := by
  obtain ⟨h1, h2, base, cap, hv, hc, hr⟩ := h
  exact ⟨h1, h2, base, cap, hv, fun hne => let ⟨b, o, hb, hcs⟩ := hc hne; ⟨b, o, hb, hcs.mono hs⟩, hr⟩
theorem Sl.kp {k : Nat} {v : Value} {rows : List (List Value)} {w' : World} (h : Sl w X k v rows) (hk : Kp X w w') : Sl w' X k v rows := by
  obtain ⟨h1, h2, base, cap, hv, hc, hr⟩ := h
  exact ⟨h1, h2, base, cap, hv, fun hne => let ⟨b, o, hb, hcs⟩ := hc hne; ⟨b, o, hb, hcs.kp hk⟩, hr⟩
theorem Sl.since {k : Nat} {v : Value} {rows : List (List Value)} {Y : XS} {w' : World} (h : Sl w X k v rows) (hs : Since X w Y w') : Sl w' Y k v rows :=
  (h.kp hs.kp).mono hs.sub
theorem Sl.old {k : Nat} {v : Value} {rows : List (List Value)} (h : Sl w X k v rows) : Sl w (old w) k v rows := by
  obtain ⟨h1, h2, base, cap, hv, hc, hr⟩ := h
  exact ⟨h1, h2, base, cap, hv, fun hne => let ⟨b, o, hb, hcs⟩ := hc hne; ⟨b, o, hb, hcs.lt, hcs.2⟩, hr⟩
theorem Sl.nil (w : World) (X : XS) (k : Nat) : Sl w X k (.slice none 0 0) [] := ⟨by simp, by simp, none, 0, rfl, by simp, by simp, by simp, by simp⟩
theorem Sl.one {k : Nat} {v : Value} {rows : List (List Value)} (h : Sl w X k v rows) : one v = true := by
  obtain ⟨_, _, _, _, rfl, _⟩ := h; rfl
theorem flatten_part {k : Nat} : ∀ {rows : List (List Value)}, (∀ r ∈ rows, r.length = k) → ∀ {i : Nat} {r : List Value}, rows[i]? = some r →
    (rows.flatten.drop (i * k)).take k = r
  | [], _, i, r, h => by simp at h
  | x :: rest, hl, 0, r, h => by
    simp only [List.getElem?_cons_zero, Option.some.injEq] at h; subst h
    have := hl x (by simp)
    simp [this.symm]
  | x :: rest, hl, i + 1, r, h => by
    have hx := hl x (by simp)
    rw [List.flatten_cons, List.drop_append, hx, List.drop_eq_nil_of_le (by rw [hx]; exact Nat.le_mul_of_pos_left k (Nat.succ_pos i))]
    have : (i + 1) * k - k = i * k := by rw [Nat.succ_mul]; omega
    rw [this, List.nil_append]
    exact flatten_part (fun r hr => hl r (by simp [hr])) (by simpa using h)
theorem rdV_aeql {t : TypeId} {xs ys : Array Value} {xo yo : Operand} {b : Bool} (hm : P.eqGuardType P.depth t = false)
    (h : ∀ wa, (Op.equalIn 10000 t (.agg xs) (.agg ys)).run P wa = .ok b wa) (k : N (.bool b)) : rdV P X w (binS .eql t xo yo (.agg xs) (.agg ys)) N := by
  refine rdV_pure (fun wa => ?_) k
  simp [binS, run_eqGuard_agg wa .eql t xo yo xs ys hm, run_eql_struct, h]
theorem rdV_aneq {t : TypeId} {xs ys : Array Value} {xo yo : Operand} {b : Bool} (hm : P.eqGuardType P.depth t = false)
    (h : ∀ wa, (Op.equalIn 10000 t (.agg xs) (.agg ys)).run P wa = .ok b wa) (k : N (.bool (!b))) : rdV P X w (binS .neq t xo yo (.agg xs) (.agg ys)) N := by
  refine rdV_pure (fun wa => ?_) k
  simp [binS, run_eqGuard_agg wa .neq t xo yo xs ys hm, binOp, Op.equal, Op.maxDepth, h]
theorem wrap_i64 {a : Int} (h1 : -(2 ^ 63) ≤ a) (h2 : a < 2 ^ 63) : IntKind.i64.wrap a = a := by
  simp only [IntKind.wrap]
  first
    | omega
    | (simp [IntKind.bits, IntKind.signed]; omega)
end Go.Eng
namespace Go.Eng
variable {P : Program} {R : Ending → World → Prop} {X : XS} {w : World} {m : Bool}
structure Grown (X : XS) (w : World) (X' : XS) (w' : World) (row : Option Nat) : Prop where
  os : w'.os = w.os
  tape : w'.tape = w.tape
  output : w'.output = w.output
  size : w.heap.size ≤ w'.heap.size
  block : ∀ k, X k → some k ≠ row → w'.heap[k]? = w.heap[k]?
  sub : ∀ k, X k → X' k
  has : ∀ k, X' k → k < w'.heap.size
theorem Since.grown {X0 Y : XS} {w0 w' : World} {row : Option Nat} (h : Since X0 w0 X w) (g : Grown X w Y w' row) (hr : ∀ k, X0 k → some k ≠ row) : Since X0 w0 Y w' :=
  ⟨⟨g.os.trans h.kp.os, g.tape.trans h.kp.tape, g.output.trans h.kp.output, Nat.le_trans h.kp.size g.size,
    fun k hk => (g.block k (h.sub k hk) (hr k hk)).trans (h.kp.block k hk)⟩, fun k hk => g.sub k (h.sub k hk), g.has⟩
theorem Grown.since {Y : XS} {w' : World} {row : Option Nat} {F : XS} (g : Grown X w Y w' row) (hf : ∀ k, F k → X k) (hr : ∀ k, F k → some k ≠ row) : Since F w Y w' :=
  ⟨⟨g.os, g.tape, g.output, g.size, fun k hk => g.block k (hf k hk) (hr k hk)⟩, fun k hk => g.sub k (hf k hk), g.has⟩
def Own (w : World) (X : XS) (lo e k : Nat) (v : Value) (rows : List (List Value)) : Prop :=
  (∀ r ∈ rows, r.length = k) ∧ w.ownsRow lo e k v rows.length rows.flatten ∧ ∀ g, v.ownBlock = some g → X g
theorem Own.nil (w : World) (X : XS) (lo e k : Nat) : Own w X lo e k (.slice none 0 0) [] := ⟨by simp, World.ownsRow_nil w lo e k, by simp [Value.ownBlock]⟩
theorem Own.sl {lo e k : Nat} {v : Value} {rows : List (List Value)} (h : Own w X lo e k v rows) : Sl w X k v rows := by
  obtain ⟨h1, h2, h3⟩ := h
  rcases h2.2 with ⟨rfl, hn⟩ | ⟨g, cap, cur, rfl, hb, hg, hnc, hcm, hcs, ht⟩
  · have : rows = [] := List.eq_nil_of_length_eq_zero hn
    subst this; exact Sl.nil w X k
  · have hm : cap ≤ 2 ^ 63 - 1 := hcm
    refine ⟨h1, Nat.le_trans hnc hm, _, cap, rfl, fun _ => ⟨g, 0, rfl, h3 g rfl, cur, e, (0, 0), hg, fun j v hj => ?_⟩, by simp, hnc, hm⟩
    rw [← ht, List.getElem?_take] at hj
    split at hj
    · simpa using hj
    · cases hj
theorem Own.kp {lo e k : Nat} {v : Value} {rows : List (List Value)} {w' : World} (h : Own w X lo e k v rows) (hk : Kp X w w') : Own w' X lo e k v rows := by
  obtain ⟨h1, h2, h3⟩ := h
  refine ⟨h1, ⟨h2.1, ?_⟩, h3⟩
  rcases h2.2 with h | ⟨g, cap, cur, rfl, hb, hg, hr⟩
  · exact .inl h
  · exact .inr ⟨g, cap, cur, rfl, hb, by rw [hk.block g (h3 g rfl)]; exact hg, hr⟩
theorem Own.mono {lo e k : Nat} {v : Value} {rows : List (List Value)} {Y : XS} (h : Own w X lo e k v rows) (hs : ∀ k, X k → Y k) : Own w Y lo e k v rows :=
  ⟨h.1, h.2.1, fun g hg => hs g (h.2.2 g hg)⟩
theorem Own.since {lo e k : Nat} {v : Value} {rows : List (List Value)} {Y : XS} {w' : World} (h : Own w X lo e k v rows) (hs : Since X w Y w') : Own w' Y lo e k v rows :=
  (h.kp hs.kp).mono hs.sub
theorem Own.low {lo lo' e k : Nat} {v : Value} {rows : List (List Value)} (h : Own w X lo e k v rows) (hl : lo' ≤ lo) : Own w X lo' e k v rows := by
  obtain ⟨h1, h2, h3⟩ := h
  refine ⟨h1, ⟨h2.1, ?_⟩, h3⟩
  rcases h2.2 with h | ⟨g, cap, cur, rfl, hb, hr⟩
  · exact .inl h
  · exact .inr ⟨g, cap, cur, rfl, Nat.le_trans hl hb, hr⟩
theorem Own.ge {lo e k : Nat} {v : Value} {rows : List (List Value)} (h : Own w X lo e k v rows) {g : Nat} (hg : v.ownBlock = some g) : lo ≤ g ∧ g < w.heap.size := h.2.1.lt g hg
theorem Own.tight {lo e k : Nat} {v : Value} {rows : List (List Value)} (h : Own w X lo e k v rows) : Own w (fun g => lo ≤ g ∧ g < w.heap.size) lo e k v rows :=
  ⟨h.1, h.2.1, fun _ hg => h.ge hg⟩
theorem flat_len {k : Nat} : ∀ {rows : List (List Value)}, (∀ r ∈ rows, r.length = k) → rows.flatten.length = rows.length * k
  | [], _ => by simp
  | r :: rs, h => by
    rw [List.flatten_cons, List.length_append, h r (by simp), flat_len fun r hr => h r (by simp [hr]), List.length_cons, Nat.succ_mul, Nat.add_comm]
theorem eV_slice {t e len : Nat} {parts : Array (Nat × Value)} {k : Nat} {rows : List (List Value)} {N : Value → World → XS → Prop} (cells : Array Value) (z : Value)
    (hX : ∀ k, X k → k < w.heap.size) (hu : P.underlying t = some (.slice e)) (hz : (P.info? e).bind (fun i => i.zero.map fun z => (i.size, z)) = some (k, z))
    (hpos : 0 < len * k) (hsmall : len * k ≤ 2 ^ 24)
    (h : Instr.fill (fun i => some (i * k, k)) ((Array.range (len * k)).map (z.cells[· % z.cells.size]!)) parts.toList = some cells)
    (hrows : ∀ r ∈ rows, r.length = k) (hlen : rows.length = len) (hc : cells.toList = rows.flatten)
    (n : ∀ v w' X', Since X w X' w' → Own w' X' w.heap.size e k v rows → N v w' X') : eV P R X w m (Instr.buildSlice t len parts) N := by
  intro wa hk
  cases hq : P.info? e with
  | none => simp [hq] at hz
  | some ie =>
    cases hzz : ie.zero with
    | none => simp [hq, hzz] at hz
    | some z' =>
      simp only [hq, hzz, Option.bind_some, Option.map_some, Option.some.injEq, Prod.mk.injEq] at hz
      obtain ⟨rfl, rfl⟩ := hz
      have hr := run_buildSlice (P := P) wa t e len parts cells ie z' hu hq hzz (by omega) (by omega) h
      unfold effW
      simp only [vS, Sem.run_bind, hr, Result.andThen_ok, Sem.run_pure]
      have hx : Ext wa (wa.alloc (.cells cells e)) := Ext.alloc _ _
      have hcs : cells.size = len * ie.size := by
        have := congrArg List.length hc
        simp only [Array.length_toList] at this
        rw [this, flat_len hrows, hlen]
      have hpos' : 0 < ie.size := Nat.pos_of_ne_zero fun e => by simp [e] at hpos
      have hle : len ≤ 2 ^ 24 := Nat.le_trans (Nat.le_mul_of_pos_right len hpos') hsmall
      have how := World.ownsRow_lit (e := e) (base := w.heap.size) (size := ie.size) wa cells len hk.size (by simp only [maxLen]; omega) hcs
      refine ⟨Step.of_ext hx, n _ _ _ (Since.of_ext hX hk hx) ⟨hrows, by rw [hlen, ← hc]; exact how, fun g hg => ?_⟩⟩
      simp only [Value.ownBlock, Option.some.injEq] at hg
      subst hg
      exact .inr ⟨Nat.le_refl _, by simp⟩
theorem eV_slice0 {t e k : Nat} {N : Value → World → XS → Prop} (hX : ∀ k, X k → k < w.heap.size) (hu : P.underlying t = some (.slice e)) (hz : (P.info? e).map (·.size) = some k)
    (n : ∀ v w' X', Since X w X' w' → Own w' X' w.heap.size e k v [] → N v w' X') : eV P R X w m (Instr.buildSlice t 0 #[]) N := by
  intro wa hk
  cases hq : P.info? e with
  | none => simp [hq] at hz
  | some ie =>
    unfold effW
    have hr : (Instr.buildSlice t 0 #[]).run P wa = .ok (.slice (some ⟨wa.heap.size, 0, none⟩) 0 0) (wa.alloc (.cells #[] e)) := by
      simp [Instr.buildSlice, run_underlying hu, sizeOf, typeInfo, hq, Instr.fill, newRow]
      have hz0 : ∀ f : Nat → Value, Array.map f (Array.range 0) = #[] := fun f => Array.eq_empty_of_size_eq_zero (by simp)
      rw [hz0]
    simp only [vS, Sem.run_bind, hr, Result.andThen_ok, Sem.run_pure]
    have hx : Ext wa (wa.alloc (.cells #[] e)) := Ext.alloc _ _
    have how := World.ownsRow_lit (e := e) (base := w.heap.size) (size := k) wa #[] 0 hk.size (by simp [maxLen]) (by simp)
    refine ⟨Step.of_ext hx, n _ _ _ (Since.of_ext hX hk hx) ⟨by simp, how, fun g hg => ?_⟩⟩
    simp only [Value.ownBlock, Option.some.injEq] at hg
    subst hg
    exact .inr ⟨Nat.le_refl _, by simp⟩
theorem Sl.src {k : Nat} {v : Value} {rows : List (List Value)} (h : Sl w X k v rows) :
    v = .slice none 0 0 ∧ rows = [] ∨ ∃ a cap, v = .slice (some a) rows.length cap ∧ ∀ j u, rows.flatten[j]? = some u → w.cell? (a.add j) = some u := by
  obtain ⟨h1, h2, base, cap, rfl, hc, hn, hle, _⟩ := h
  cases base with
  | none =>
    cases rows with
    | nil => exact .inl ⟨by simp [hn rfl], rfl⟩
    | cons r rs => obtain ⟨_, _, hh, _⟩ := hc (by simp); cases hh
  | some a =>
    refine .inr ⟨a, cap, rfl, fun j u hj => ?_⟩
    cases rows with
    | nil => simp at hj
    | cons r rs =>
      obtain ⟨b, o, hb, hcs⟩ := hc (by simp)
      cases hb
      rw [addr_add]; exact hcs.range j u hj
theorem eV_append {t ty e k bytes lo : Nat} {v s : Value} {rows rows2 : List (List Value)} {N : Value → World → XS → Prop} (z : Value)
    (hu : P.underlying t = some (.slice e)) (hi : (P.info? e).bind (fun i => i.zero.map fun z => (i.size, i.bytes, z)) = some (k, bytes, z)) (hzs : z.cells.size = k) (hk0 : 0 < k)
    (hX : ∀ k, X k → k < w.heap.size) (hlo : lo ≤ w.heap.size) (own : Own w X lo e k v rows) (src : Sl w X k s rows2) (h1 : ∀ r ∈ rows2, ∀ u ∈ r, one u = true)
    (hb : (rows.length + rows2.length) * bytes ≤ 140737488355328) (hl : rows.length + rows2.length ≤ 2 ^ 63 - 1)
    (n : ∀ v' w' X', Grown X w X' w' v.ownBlock → Own w' X' lo e k v' (rows ++ rows2) → (v'.ownBlock = v.ownBlock ∨ ∃ g, v'.ownBlock = some g ∧ w.heap.size ≤ g) → N v' w' X') :
    eV P R X w true (Builtin.append_ #[t, t] ty #[v, s]) N := by
  intro wa hk
  have own := own.kp hk
  have src := src.kp hk
  cases hq : P.info? e with
  | none => simp [hq] at hi
  | some ie =>
    cases hzz : ie.zero with
    | none => simp [hq, hzz] at hi
    | some z' =>
      simp only [hq, hzz, Option.bind_some, Option.map_some, Option.some.injEq, Prod.mk.injEq] at hi
      obtain ⟨rfl, rfl, rfl⟩ := hi
      unfold effW
      rcases src.src with ⟨rfl, rfl⟩ | ⟨a, cap, rfl, hcell⟩
      · have hr := run_append_owned_none (P := P) (w := wa) lo t ty e ie ie.size hu hq v rows.length rows.flatten own.2.1
        simp only [vS, Sem.run_bind, hr, Result.andThen_ok, Sem.run_pure]
        have hx := Ext.refl wa
        have hs := Since.of_ext hX hk hx
        refine ⟨Step.of_ext hx, n _ _ _ ⟨hs.kp.os, hs.kp.tape, hs.kp.output, hs.kp.size, fun k h _ => hs.kp.block k h, hs.sub, hs.has⟩ ?_ (.inl rfl)⟩
        rw [List.append_nil]
        exact own.mono (fun k h => Or.inl h)
      · have hlen2 : rows2.flatten.length = rows2.length * ie.size := flat_len src.1
        obtain ⟨v', w', hr, how, hg, _, hat⟩ := run_append_own_at (P := P) wa lo t ty e ie z' ie.size ie.bytes hu hq hzz rfl rfl hzs hk0 v rows.length rows.flatten own.2.1
          a rows2.length cap rows2.flatten hlen2 hcell (fun u hu => by
            obtain ⟨r, hr, hur⟩ := List.mem_flatten.1 hu
            rw [← one_eq]; exact h1 r hr u hur) hl hb (Nat.le_trans hlo hk.size)
        simp only [vS, Sem.run_bind, hr, Result.andThen_ok, Sem.run_pure]
        have hgb : ∀ k, k < wa.heap.size → some k ≠ v.ownBlock → w'.heap[k]? = wa.heap[k]? := hg.block
        refine ⟨⟨hg.os, hg.tape, hg.output, hg.size, fun k hkl hnx => hg.block k hkl fun e => hnx (own.2.2 k e.symm)⟩, n _ _ _ ?_ ⟨?_, ?_, ?_⟩ ?_⟩
        · exact ⟨hg.os.trans hk.os, hg.tape.trans hk.tape, hg.output.trans hk.output, Nat.le_trans hk.size hg.size,
            fun k hx hne => (hg.block k (Nat.lt_of_lt_of_le (hX k hx) hk.size) hne).trans (hk.block k hx), fun k h => .inl h,
            fun k h => h.elim (fun h => Nat.lt_of_lt_of_le (hX k h) (Nat.le_trans hk.size hg.size)) (fun h => h.2)⟩
        · intro r hr
          rcases List.mem_append.1 hr with h | h
          · exact own.1 r h
          · exact src.1 r h
        · rw [List.length_append, List.flatten_append]; exact how
        · intro g hgg
          rcases hat with h | h
          · exact .inl (own.2.2 g (h ▸ hgg))
          · rw [hgg] at h; cases h
            exact .inr ⟨Nat.le_refl _, (how.lt _ hgg).2⟩
        · rcases hat with h | h
          · exact .inl h
          · exact .inr ⟨_, h, hk.size⟩
theorem run_equalIn_snil {t e : TypeId} (ht : P.underlying t = some (.slice e)) (d : Nat) (base : Option Addr) (n c : Nat) (w : World) :
    (Op.equalIn (d + 1) t (.slice base n c) (.slice none 0 0)).run P w = .ok base.isNone w := by
  cases base <;> simp [Op.equalIn, run_underlying ht]
theorem rdV_snil {t e : TypeId} {xo yo : Operand} {base : Option Addr} {n c : Nat} {N : Value → Prop} (ht : P.underlying t = some (.slice e)) (h : N (.bool base.isNone)) :
    rdV P X w (binS .eql t xo yo (.slice base n c) (.slice none 0 0)) N := by
  refine rdV_pure (fun wa => ?_) h
  have : (Op.equal t (.slice base n c) (.slice none 0 0)).run P wa = .ok base.isNone wa := run_equalIn_snil ht 9999 base n c wa
  simp [binS, eqGuard, binOp, this]
def intFs (P : Program) : List Field → Nat → Bool
  | [], _ => true
  | f :: r, i => f.name != "_" && (match P.underlying f.type with | some (.int _) => true | _ => false) && f.offset == i && intFs P r (i + 1)
theorem run_eqFields_ints (w : World) (d : Nat) (as bs : List Int) : ∀ (fs : List Field) (i : Nat), intFs P fs i = true → as.length = i + fs.length → bs.length = i + fs.length →
    (Op.eqFields (d + 1) (as.map (Value.int .i64)).toArray (bs.map (Value.int .i64)).toArray fs).run P w = .ok (decide (as.drop i = bs.drop i)) w
  | [], i, _, ha, hb => by
    simp only [List.length_nil, Nat.add_zero] at ha hb
    rw [List.drop_of_length_le (by omega), List.drop_of_length_le (by omega)]; simp [Op.eqFields]
  | f :: r, i, h, ha, hb => by
    simp only [intFs, Bool.and_eq_true, bne_iff_ne, ne_eq, beq_iff_eq] at h
    obtain ⟨⟨⟨hn, hu⟩, ho⟩, hr⟩ := h
    simp only [List.length_cons] at ha hb
    have hia : i < as.length := by omega
    have hib : i < bs.length := by omega
    cases hd : P.underlying f.type with
    | none => simp [hd] at hu
    | some ty =>
      cases ty <;> simp only [hd, Bool.false_eq_true] at hu
      rename_i q
      have hagg : (isAgg f.type).run P w = .ok false w := by simp [isAgg, run_underlying hd]
      have hpa : (part f.type (as.map (Value.int .i64)).toArray f.offset).run P w = .ok (.int .i64 as[i]) w := by
        simp [part, hagg, ho, hia]
      have hpb : (part f.type (bs.map (Value.int .i64)).toArray f.offset).run P w = .ok (.int .i64 bs[i]) w := by
        simp [part, hagg, ho, hib]
      have ih := run_eqFields_ints w d as bs r (i + 1) hr (by omega) (by omega)
      have hk : (as.drop i = bs.drop i) ↔ (as[i] = bs[i] ∧ as.drop (i + 1) = bs.drop (i + 1)) := by
        rw [List.drop_eq_getElem_cons hia, List.drop_eq_getElem_cons hib, List.cons.injEq]
      simp only [hk]
      clear hk
      by_cases he : as[i] = bs[i]
      · simp [Op.eqFields, hn, hpa, hpb, run_equalIn_int w d f.type .i64 q _ _ hd, he, ih]
      · simp [Op.eqFields, hn, hpa, hpb, run_equalIn_int w d f.type .i64 q _ _ hd, he]
def intStruct (P : Program) (t n : Nat) : Bool := match P.underlying t with
  | some (.struct fs) => fs.toList.length == n && intFs P fs.toList 0 && !P.stoodInHeld t && !P.eqGuardType P.depth t
  | _ => false
theorem run_equal_ints {t n : Nat} (h : intStruct P t n = true) (as bs : List Int) (ha : as.length = n) (hb : bs.length = n) (w : World) :
    (Op.equalIn 10000 t (.agg (as.map (Value.int .i64)).toArray) (.agg (bs.map (Value.int .i64)).toArray)).run P w = .ok (decide (as = bs)) w := by
  unfold intStruct at h
  split at h
  · rename_i fs hu
    simp only [Bool.and_eq_true, beq_iff_eq, Bool.not_eq_true'] at h
    have hf : P.fieldsOf t = fs := by simp [Program.fieldsOf, hu]
    rw [run_equalIn_struct w 9999 t _ _ (by rw [hf]; exact hu) h.1.2, hf]
    have := run_eqFields_ints (P := P) w 9998 as bs fs.toList 0 h.1.1.2 (by rw [ha, h.1.1.1]; omega) (by rw [hb, h.1.1.1]; omega)
    simpa using this
  · cases h
theorem intStruct_guard {t n : Nat} (h : intStruct P t n = true) : P.eqGuardType P.depth t = false := by
  unfold intStruct at h
  split at h
  · simp only [Bool.and_eq_true, Bool.not_eq_true'] at h; exact h.2
  · cases h
theorem rdV_eql3 {N : Value → Prop} {t : TypeId} {a b c a' b' c' : Int} {xo yo : Operand} (h : intStruct P t 3 = true) (k : N (.bool (decide (a = a' ∧ b = b' ∧ c = c')))) :
    rdV P X w (binS .eql t xo yo (.agg #[.int .i64 a, .int .i64 b, .int .i64 c]) (.agg #[.int .i64 a', .int .i64 b', .int .i64 c'])) N :=
  rdV_aeql (b := decide (a = a' ∧ b = b' ∧ c = c')) (intStruct_guard h) (fun wa => by
    have := run_equal_ints h [a, b, c] [a', b', c'] rfl rfl wa
    simpa using this) k
theorem rdV_neq3 {N : Value → Prop} {t : TypeId} {a b c a' b' c' : Int} {xo yo : Operand} (h : intStruct P t 3 = true) (k : N (.bool (!decide (a = a' ∧ b = b' ∧ c = c')))) :
    rdV P X w (binS .neq t xo yo (.agg #[.int .i64 a, .int .i64 b, .int .i64 c]) (.agg #[.int .i64 a', .int .i64 b', .int .i64 c'])) N :=
  rdV_aneq (b := decide (a = a' ∧ b = b' ∧ c = c')) (intStruct_guard h) (fun wa => by
    have := run_equal_ints h [a, b, c] [a', b', c'] rfl rfl wa
    simpa using this) k
theorem eV_box' {t : TypeId} {v : Value} {N : Value → World → XS → Prop} (hX : ∀ k, X k → k < w.heap.size)
    (n : ∀ b w' X', w.heap.size ≤ b → Since X w X' w' → X' b → w'.heap[b]? = some (.cells v.cells.toList.toArray t (0, 0)) → N (ptr b 0) w' X') : eV P R X w m (Instr.box t v) N := by
  intro wa hk
  unfold effW
  have hr : (Instr.box t v).run P wa = .ok (ptr wa.heap.size 0) (wa.alloc (.cells v.cells t)) := by simp [Instr.box, newVar, newRow]
  simp only [vS, Sem.run_bind, hr, Result.andThen_ok, Sem.run_pure]
  have hx : Ext wa (wa.alloc (.cells v.cells t)) := Ext.alloc _ _
  exact ⟨Step.of_ext hx, n _ _ _ hk.size (Since.of_ext hX hk hx) (.inr ⟨Nat.le_refl _, by simp⟩) (by simpa using heap_alloc_new wa _)⟩
def RowIs (w : World) (X : XS) (b : Nat) (cs : List Value) (ty : TypeId) : Prop := X b ∧ w.heap[b]? = some (.cells cs.toArray ty (0, 0))
theorem RowIs.kp {b : Nat} {cs : List Value} {ty : TypeId} {w' : World} (h : RowIs w X b cs ty) (hk : Kp X w w') : RowIs w' X b cs ty := ⟨h.1, by rw [hk.block b h.1]; exact h.2⟩
theorem RowIs.mono {b : Nat} {cs : List Value} {ty : TypeId} {Y : XS} (h : RowIs w X b cs ty) (hs : ∀ k, X k → Y k) : RowIs w Y b cs ty := ⟨hs _ h.1, h.2⟩
theorem RowIs.since {b : Nat} {cs : List Value} {ty : TypeId} {Y : XS} {w' : World} (h : RowIs w X b cs ty) (hs : Since X w Y w') : RowIs w' Y b cs ty := (h.kp hs.kp).mono hs.sub
theorem RowIs.cells {b : Nat} {cs : List Value} {ty : TypeId} (h : RowIs w X b cs ty) : Cells w X b 0 cs := ⟨h.1, _, _, _, h.2, fun j v hj => by simpa using hj⟩
theorem eU_store {t sz b o : Nat} {cs : List Value} {ty : TypeId} {v : Value} {N : Value → World → XS → Prop} (h : RowIs w X b cs ty) (ht : (P.info? t).map (·.size) = some sz)
    (hl : o + sz ≤ cs.length) (hv : v.cells.size = sz) (h1 : v.cells.toList.all one = true) (hX : ∀ k, X k → k < w.heap.size)
    (n : ∀ w' X', Grown X w X' w' (some b) → RowIs w' X' b (setL cs o v.cells.toList) ty → N undef w' X') : eU P R X w true (Instr.storeAt t (ptr b o) v) N := by
  intro wa hk
  have hb := (h.kp hk).2
  unfold effW
  have hr := run_storeAt (P := P) ht hb o (by simpa using hl) v hv h1
  simp only [ptrV] at hr
  simp only [uS, Sem.run_bind, hr, Result.andThen_ok, Sem.run_pure]
  have hsz : (wa.setRow b (setL cs o v.cells.toList).toArray).heap.size = wa.heap.size := by simp
  refine ⟨⟨rfl, rfl, rfl, by rw [hsz]; exact Nat.le_refl _, fun k _ hx => setRow_other wa b k _ fun e => hx (e ▸ h.1)⟩, n _ _ ?_ ⟨.inl h.1, setRow_heap wa b _ _ ty _ hb⟩⟩
  refine ⟨hk.os, hk.tape, hk.output, by rw [hsz]; exact hk.size, fun k hx hne => ?_, fun k h => .inl h, fun k h => ?_⟩
  · rw [setRow_other wa b k _ (fun e => hne (by rw [e])), hk.block k hx]
  · rw [hsz]
    exact h.elim (fun h => Nat.lt_of_lt_of_le (hX k h) hk.size) (fun h => by have := h.2; rwa [hsz] at this)
end Go.Eng
namespace Go.Eng
variable {P : Program} {α : Type}
end Go.Eng
set_option linter.unusedSectionVars false
set_option linter.unusedSimpArgs false
namespace Go.Eng
variable {P : Program} {R : Ending → World → Prop} {X : XS} {w : World} {m : Bool} {κ : Type} [DecidableEq κ]
abbrev Ent (κ : Type) := κ × Value × Nat
def ent (kv : κ → Value) (x : Ent κ) : MapEntry := ⟨kv x.1, x.2.1, x.2.2⟩
def findI (k : κ) : List (Ent κ) → Nat → Option (Nat × Value)
  | [], _ => none
  | x :: r, i => if k = x.1 then some (i, x.2.1) else findI k r (i + 1)
structure KeyOf (P : Program) (kt : TypeId) (kv : κ → Value) : Prop where
  chk : ∀ e k w, (Instr.checkKey e 10000 kt (kv k)).run P w = .ok () w
  find : ∀ k (l : List (Ent κ)) w, (Instr.findKey kt (kv k) (l.map (ent kv))).run P w = .ok (findI k l 0) w
  same : ∀ k, Instr.sameBits 10000 (kv k) (kv k) = true
theorem beq_bytes (a b : ByteArray) : (a == b) = decide (a = b) := by
  rw [beq_toListBytes]
  have : a.toList = b.toList ↔ a = b := by
    constructor
    · intro h
      rw [ByteArray.toList_eq, ByteArray.toList_eq] at h
      obtain ⟨⟨x⟩⟩ := a; obtain ⟨⟨y⟩⟩ := b
      simpa using h
    · intro h; rw [h]
  by_cases h : a = b
  · simp [h]
  · simp [h, this]
theorem run_checkKey_string {kt : TypeId} (h : P.underlying kt = some .string) (e : Bool) (n : Nat) (k : ByteArray) (w : World) :
    (Instr.checkKey e (n + 1) kt (.string k)).run P w = .ok () w := by simp [Instr.checkKey, run_underlying h]
theorem run_checkKey_agg {kt : TypeId} {fs : Array Field} (h : P.underlying kt = some (.struct fs)) (e : Bool) (n : Nat) (cs : Array Value) (w : World)
    (hr : (forIn fs PUnit.unit fun f (_ : PUnit) => (if f.name ≠ "_" then (do
        let v ← part f.type cs f.offset
        Instr.checkKey e n f.type v
        pure (ForInStep.yield PUnit.unit))
      else pure (ForInStep.yield PUnit.unit) : Sem (ForInStep PUnit))).run P w = .ok PUnit.unit w) :
    (Instr.checkKey e (n + 1) kt (.agg cs)).run P w = .ok () w := by
  simp only [Instr.checkKey, Sem.run_bind, run_underlying h, Result.andThen_ok]
  exact (congrArg (fun r => r.andThen fun _ w' => Sem.run P (Pure.pure ()) w') hr).trans rfl
theorem key_string {kt : TypeId} (h : P.underlying kt = some .string) : KeyOf P kt (fun s : ByteArray => Value.string s) where
  chk e k w := run_checkKey_string h e 9999 k w
  find k l w := by
    have : ∀ (l : List (Ent ByteArray)) (i : Nat), Instr.findNow .string (.string k) (l.map (ent fun s => Value.string s)) i = some (findI k l i) := by
      intro l
      induction l with
      | nil => intro i; rfl
      | cons x r ih =>
        intro i
        by_cases hk : k = x.1
        · simp [Instr.findNow, ent, Instr.sameNow, findI, hk, beq_bytes]
        · simp [Instr.findNow, ent, Instr.sameNow, findI, hk, ih, beq_bytes]
    simp [Instr.findKey, run_underlying h, this]
  same k := by simp [Instr.sameBits, beq_bytes]
theorem run_checkKey_ints (w : World) (e : Bool) (d : Nat) (as : List Int) : ∀ (fs : List Field) (i : Nat), intFs P fs i = true → as.length = i + fs.length →
    (forIn fs PUnit.unit fun f (_ : PUnit) => (if f.name ≠ "_" then (do
        let v ← part f.type (as.map (Value.int .i64)).toArray f.offset
        Instr.checkKey e (d + 1) f.type v
        pure (ForInStep.yield PUnit.unit))
      else pure (ForInStep.yield PUnit.unit) : Sem (ForInStep PUnit))).run P w = .ok PUnit.unit w
  | [], i, _, _ => by simp
  | f :: r, i, h, ha => by
    simp only [intFs, Bool.and_eq_true, bne_iff_ne, ne_eq, beq_iff_eq] at h
    obtain ⟨⟨⟨hn, hu⟩, ho⟩, hr⟩ := h
    simp only [List.length_cons] at ha
    have hia : i < as.length := by omega
    cases hd : P.underlying f.type with
    | none => simp [hd] at hu
    | some ty =>
      cases ty <;> simp only [hd, Bool.false_eq_true] at hu
      rename_i q
      have hagg : (isAgg f.type).run P w = .ok false w := by simp [isAgg, run_underlying hd]
      have hpa : (part f.type (as.map (Value.int .i64)).toArray f.offset).run P w = .ok (.int .i64 as[i]) w := by
        simp [part, hagg, ho, hia]
      have hck : (Instr.checkKey e (d + 1) f.type (.int .i64 as[i])).run P w = .ok () w := by
        simp [Instr.checkKey, run_underlying hd]
      have ih := run_checkKey_ints w e d as r (i + 1) hr (by omega)
      rw [List.forIn_cons]
      simp only [ne_eq, hn, not_false_eq_true, if_true, Sem.run_bind, hpa, hck, Result.andThen_ok, Sem.run_pure]
      exact ih
theorem sameBits_ints (d : Nat) (as : List Int) : Instr.sameBits (d + 1) (.agg (as.map (Value.int .i64)).toArray) (.agg (as.map (Value.int .i64)).toArray) = true := by
  have : ∀ l : List Int, ((l.map (Value.int .i64)).zip (l.map (Value.int .i64))).all (fun (x, y) => Instr.sameBits d x y) = true := by
    intro l
    induction l with
    | nil => rfl
    | cons x r ih =>
      simp only [List.map_cons, List.zip_cons_cons, List.all_cons, ih, Bool.and_true]
      cases d <;> simp [Instr.sameBits]
  simp [Instr.sameBits, this]
theorem key_ints {kt n : Nat} (h : intStruct P kt n = true) (as : κ → List Int) (hlen : ∀ k, (as k).length = n) (hinj : ∀ a b, as a = as b → a = b) :
    KeyOf P kt (fun k : κ => Value.agg ((as k).map (Value.int .i64)).toArray) where
  chk e k w := by
    have h0 := h
    unfold intStruct at h
    split at h
    · rename_i fs hu
      simp only [Bool.and_eq_true, beq_iff_eq, Bool.not_eq_true'] at h
      have hr := run_checkKey_ints (P := P) w e 9998 (as k) fs.toList 0 h.1.1.2 (by rw [hlen, h.1.1.1]; omega)
      rw [Array.forIn_toList] at hr
      exact run_checkKey_agg hu e 9999 _ w hr
    · cases h
  find k l w := by
    have h0 := h
    unfold intStruct at h0
    split at h0
    · rename_i fs hu
      have hask : ∀ (l : List (Ent κ)) (i : Nat), (Instr.findAsking kt (.agg ((as k).map (Value.int .i64)).toArray) (l.map (ent fun k => Value.agg ((as k).map (Value.int .i64)).toArray)) i).run P w = .ok (findI k l i) w := by
        intro l
        induction l with
        | nil => intro i; simp [Instr.findAsking, findI]
        | cons x r ih =>
          intro i
          have he := run_equal_ints h (as k) (as x.1) (hlen _) (hlen _) w
          simp only [List.map_cons, Instr.findAsking, ent, Op.equal, Op.maxDepth, Sem.run_bind, he, Result.andThen_ok, findI]
          by_cases hk : k = x.1
          · subst hk; simp
          · have : ¬ as k = as x.1 := fun e => hk (hinj _ _ e)
            simp only [this, decide_false, Bool.false_eq_true, if_false, hk]
            exact ih _
      cases l with
      | nil => simp [Instr.findKey, run_underlying hu, Instr.findNow, findI]
      | cons x r =>
        have := hask (x :: r) 0
        simp only [Instr.findKey, Sem.run_bind, run_underlying hu, Result.andThen_ok]
        simp only [List.map_cons, Instr.findNow, ent, Instr.sameNow] at this ⊢
        exact this
    · cases h0
  same k := sameBits_ints 9999 (as k)
def MapIs (w : World) (X : XS) (b : Nat) (kv : κ → Value) (es : List (Ent κ)) (clock : Nat) : Prop :=
  X b ∧ w.heap[b]? = some (.map (es.map (ent kv)).toArray clock) ∧ (es.map (·.1)).Nodup ∧ (es.map (·.2.2)).Nodup ∧ ∀ x ∈ es, x.2.2 < clock
theorem MapIs.kp {b : Nat} {kv : κ → Value} {es : List (Ent κ)} {c : Nat} {w' : World} (h : MapIs w X b kv es c) (hk : Kp X w w') : MapIs w' X b kv es c :=
  ⟨h.1, by rw [hk.block b h.1]; exact h.2.1, h.2.2⟩
theorem MapIs.mono {b : Nat} {kv : κ → Value} {es : List (Ent κ)} {c : Nat} {Y : XS} (h : MapIs w X b kv es c) (hs : ∀ k, X k → Y k) : MapIs w Y b kv es c := ⟨hs _ h.1, h.2⟩
theorem MapIs.since {b : Nat} {kv : κ → Value} {es : List (Ent κ)} {c : Nat} {Y : XS} {w' : World} (h : MapIs w X b kv es c) (hs : Since X w Y w') : MapIs w' Y b kv es c :=
  (h.kp hs.kp).mono hs.sub
def getE (k : κ) (es : List (Ent κ)) : Option Value := (es.find? fun x => decide (x.1 = k)).map (·.2.1)
theorem findI_eq (k : κ) : ∀ (es : List (Ent κ)) (i : Nat), findI k es i = (es.findIdx? fun x => decide (x.1 = k)).bind fun j => (es[j]?).map fun x => (i + j, x.2.1)
  | [], i => rfl
  | x :: r, i => by
    unfold findI
    by_cases h : k = x.1
    · simp [h, List.findIdx?_cons]
    · rw [if_neg h, findI_eq k r (i + 1)]
      have h' : ¬ x.1 = k := fun e => h e.symm
      simp only [List.findIdx?_cons, h', decide_false, Bool.false_eq_true, if_false]
      cases r.findIdx? fun x => decide (x.1 = k) with
      | none => rfl
      | some j => simp [Nat.add_assoc, Nat.add_comm 1 j]
theorem findI_get (k : κ) : ∀ (es : List (Ent κ)) (i : Nat), (findI k es i).map (·.2) = getE k es
  | [], i => rfl
  | x :: r, i => by
    unfold findI getE
    by_cases h : k = x.1
    · simp [h]
    · have h' : ¬ x.1 = k := fun e => h e.symm
      rw [if_neg h, findI_get k r (i + 1)]
      simp [getE, h']
theorem rdV_lookup {t kt et b c : Nat} {kv : κ → Value} {es : List (Ent κ)} {k : κ} {N : Value → Prop} (z : Value) (h : MapIs w X b kv es c) (K : KeyOf P kt kv)
    (ht : P.underlying t = some (.map kt et)) (hz : (P.info? et).bind (·.zero) = some z)
    (n : N (.tuple #[(getE k es).getD z, .bool (getE k es).isSome])) : rdV P X w (Instr.lookup t (.map (some b)) (kv k) true) N := by
  refine rdV_of _ (fun wa hk => ?_) n
  have hb := (h.kp hk).2.1
  cases hi : P.info? et with
  | none => simp [hi] at hz
  | some inf =>
    have hz' : inf.zero = some z := by simpa [hi] using hz
    have hg := findI_get k es 0
    simp only [Instr.lookup, Sem.run_bind, run_underlying ht, Result.andThen_ok, getObj, Sem.run, hb, K.chk, List.toList_toArray, K.find]
    cases hf : findI k es 0 with
    | none =>
      rw [hf] at hg
      simp only [Option.map_none] at hg
      simp [zeroValue, typeInfo, hi, hz', ← hg, K.find, hf]
    | some r =>
      rw [hf] at hg
      simp only [Option.map_some] at hg
      simp [← hg, K.find, hf]
theorem eV_makeMap {t : TypeId} {kv : κ → Value} {N : Value → World → XS → Prop} (hX : ∀ k, X k → k < w.heap.size)
    (n : ∀ b w' X', w.heap.size ≤ b → Since X w X' w' → MapIs w' X' b kv [] 0 → N (.map (some b)) w' X') : eV P R X w m (Instr.makeMap t none) N := by
  intro wa hk
  unfold effW
  have hr : (Instr.makeMap t none).run P wa = .ok (.map (some wa.heap.size)) (wa.alloc (.map #[] 0)) := by simp [Instr.makeMap]
  simp only [vS, Sem.run_bind, hr, Result.andThen_ok, Sem.run_pure]
  have hx : Ext wa (wa.alloc (.map #[] 0)) := Ext.alloc _ _
  exact ⟨Step.of_ext hx, n _ _ _ hk.size (Since.of_ext hX hk hx) ⟨.inr ⟨Nat.le_refl _, by simp⟩, by simpa using heap_alloc_new wa _, by simp, by simp, by simp⟩⟩
open Go.ChangeMaps (setBlock)
theorem grown_set {b : Nat} {o : Obj} {wa : World} (hX : ∀ k, X k → k < w.heap.size) (hk : Kp X w wa) : Grown X w (grow X wa (setBlock wa b o)) (setBlock wa b o) (some b) := by
  have hs : (setBlock wa b o).heap.size = wa.heap.size := by simp [setBlock]
  refine ⟨hk.os, hk.tape, hk.output, by rw [hs]; exact hk.size, fun k hx hne => ?_, fun k h => .inl h, fun k h => ?_⟩
  · rw [← hk.block k hx]
    have : b ≠ k := fun e => hne (by rw [e])
    simp [setBlock, Array.getElem?_setIfInBounds, this]
  · rw [hs]
    exact h.elim (fun h => Nat.lt_of_lt_of_le (hX k h) hk.size) (fun h => by have := h.2; rwa [hs] at this)
theorem fr_set {b : Nat} {o : Obj} {wa : World} (hb : X b) : Fr X wa (setBlock wa b o) := by
  refine ⟨rfl, rfl, rfl, by simp [setBlock], fun k _ hx => ?_⟩
  have : b ≠ k := fun e => hx (e ▸ hb)
  simp [setBlock, Array.getElem?_setIfInBounds, this]
theorem set_at {b : Nat} {o : Obj} {wa : World} (hb : b < wa.heap.size) : (setBlock wa b o).heap[b]? = some o := by
  simp [setBlock, Array.getElem?_setIfInBounds, hb]
theorem run_setObj_map {wa : World} {b : Nat} {es : Array MapEntry} {c : Nat} (hb : wa.heap[b]? = some (.map es c)) (o : Obj) : (setObj b o).run P wa = .ok () (setBlock wa b o) := by
  simp [setObj, Sem.run, hb, setBlock]
def putE (k : κ) (v : Value) (c : Nat) (es : List (Ent κ)) : List (Ent κ) × Nat :=
  match es.findIdx? fun x => decide (x.1 = k) with
  | some i => (es.modify i fun x => (x.1, v, x.2.2), c)
  | none => (es ++ [(k, v, c)], c + 1)
theorem modify_map_fst {β γ : Type} (g : β → γ) (f : β → β) (hf : ∀ x, g (f x) = g x) : ∀ (l : List β) (i : Nat), (l.modify i f).map g = l.map g
  | [], i => by simp
  | x :: r, 0 => by simp [hf]
  | x :: r, i + 1 => by simp [modify_map_fst g f hf r i]
theorem mem_modify {β : Type} {f : β → β} : ∀ {l : List β} {i : Nat} {y : β}, y ∈ l.modify i f → ∃ x ∈ l, y = x ∨ y = f x
  | [], i, y, h => by simp at h
  | x :: r, 0, y, h => by
    simp only [List.modify_zero_cons, List.mem_cons] at h
    rcases h with h | h
    · exact ⟨x, by simp, .inr h⟩
    · exact ⟨y, by simp [h], .inl rfl⟩
  | x :: r, i + 1, y, h => by
    simp only [List.modify_succ_cons, List.mem_cons] at h
    rcases h with h | h
    · exact ⟨x, by simp, .inl h⟩
    · obtain ⟨z, hz, he⟩ := mem_modify h
      exact ⟨z, by simp [hz], he⟩
theorem eU_put {t kt et b c : Nat} {kv : κ → Value} {es : List (Ent κ)} {k : κ} {v : Value} {N : Value → World → XS → Prop} (h : MapIs w X b kv es c) (K : KeyOf P kt kv)
    (ht : P.underlying t = some (.map kt et)) (hX : ∀ k, X k → k < w.heap.size)
    (n : ∀ w' X', Grown X w X' w' (some b) → MapIs w' X' b kv (putE k v c es).1 (putE k v c es).2 → N undef w' X') :
    eU P R X w true (Instr.mapUpdate t (.map (some b)) (kv k) v) N := by
  intro wa hk
  have hM := h.kp hk
  have hb := hM.2.1
  have hlt : b < wa.heap.size := (Array.getElem?_eq_some_iff.1 hb).1
  unfold effW
  have hr : (Instr.mapUpdate t (.map (some b)) (kv k) v).run P wa = .ok () (setBlock wa b (.map ((putE k v c es).1.map (ent kv)).toArray (putE k v c es).2)) := by
    simp only [Instr.mapUpdate, Sem.run_bind, run_underlying ht, Result.andThen_ok, getObj, Sem.run, hb, K.chk, List.toList_toArray, K.find, findI_eq]
    unfold putE
    cases hf : es.findIdx? fun x => decide (x.1 = k) with
    | none => simp [run_setObj_map hb, ent]
    | some j =>
      have hj := List.findIdx?_eq_some_iff_getElem.1 hf
      obtain ⟨hjl, hjk, _⟩ := hj
      have hjk' : es[j].1 = k := by simpa using hjk
      simp only [Option.bind_some, List.getElem?_eq_getElem hjl, Option.map_some, Nat.zero_add, Sem.run_bind]
      have hst : (Instr.keyThatStays (((es.map (ent kv)).toArray[j]?).map (·.key) |>.getD (kv k)) (kv k)).run P wa = .ok (kv k) wa := by
        simp [Instr.keyThatStays, hjl, ent, hjk', K.same]
      rw [hst]
      simp only [Result.andThen_ok, run_setObj_map hb]
      congr 3
      rw [List.modify_toArray]
      congr 1
      apply List.ext_getElem?
      intro q
      simp only [List.getElem?_modify, List.getElem?_map]
      by_cases hq : j = q
      · subst hq; simp [List.getElem?_eq_getElem hjl, ent, hjk']
      · simp [hq]
  simp only [uS, Sem.run_bind, hr, Result.andThen_ok, Sem.run_pure]
  refine ⟨fr_set hM.1, n _ _ (grown_set hX hk) ⟨.inl h.1, set_at hlt, ?_, ?_, ?_⟩⟩
  · unfold putE
    cases hf : es.findIdx? fun x => decide (x.1 = k) with
    | none =>
      simp only [List.map_append, List.map_cons, List.map_nil]
      rw [List.nodup_append]
      refine ⟨h.2.2.1, by simp, fun a ha y hy => ?_⟩
      simp only [List.mem_singleton] at hy
      subst hy
      rintro rfl
      obtain ⟨x, hx, rfl⟩ := List.mem_map.1 ha
      have := List.findIdx?_eq_none_iff.1 hf x hx
      simp at this
    | some j => simp only; rw [modify_map_fst (fun x : Ent κ => x.1) (fun x => (x.1, v, x.2.2)) (fun _ => rfl)]; exact h.2.2.1
  · unfold putE
    cases hf : es.findIdx? fun x => decide (x.1 = k) with
    | none =>
      simp only [List.map_append, List.map_cons, List.map_nil]
      rw [List.nodup_append]
      refine ⟨h.2.2.2.1, by simp, fun a ha y hy => ?_⟩
      simp only [List.mem_singleton] at hy
      subst hy
      rintro rfl
      obtain ⟨x, hx, he⟩ := List.mem_map.1 ha
      have := h.2.2.2.2 x hx
      omega
    | some j => simp only; rw [modify_map_fst (fun x : Ent κ => x.2.2) (fun x => (x.1, v, x.2.2)) (fun _ => rfl)]; exact h.2.2.2.1
  · unfold putE
    cases hf : es.findIdx? fun x => decide (x.1 = k) with
    | none =>
      intro x hx
      rcases List.mem_append.1 hx with hx | hx
      · have := h.2.2.2.2 x hx; show x.2.2 < c + 1; omega
      · simp only [List.mem_singleton] at hx; subst hx; exact Nat.lt_succ_self c
    | some j =>
      intro x hx
      obtain ⟨y, hy, rfl | rfl⟩ := mem_modify hx
      · exact h.2.2.2.2 _ hy
      · exact h.2.2.2.2 y hy
def delE (k : κ) (es : List (Ent κ)) : List (Ent κ) := match es.findIdx? fun x => decide (x.1 = k) with
  | some i => es.eraseIdx i
  | none => es
theorem eV_delete {t kt et tk ty b c : Nat} {kv : κ → Value} {es : List (Ent κ)} {k : κ} {N : Value → World → XS → Prop} (h : MapIs w X b kv es c) (K : KeyOf P kt kv)
    (ht : P.underlying t = some (.map kt et)) (hX : ∀ k, X k → k < w.heap.size)
    (n : ∀ w' X', Grown X w X' w' (some b) → MapIs w' X' b kv (delE k es) c → N (.tuple #[]) w' X') :
    eV P R X w true (Builtin.delete_ #[t, tk] ty #[.map (some b), kv k]) N := by
  intro wa hk
  have hM := h.kp hk
  have hb := hM.2.1
  have hlt : b < wa.heap.size := (Array.getElem?_eq_some_iff.1 hb).1
  unfold effW
  have hsub : (delE k es).Sublist es := by
    unfold delE; split
    · exact List.eraseIdx_sublist _ _
    · exact List.Sublist.refl _
  have hr : (Builtin.delete_ #[t, tk] ty #[.map (some b), kv k]).run P wa = .ok (.tuple #[]) (setBlock wa b (.map ((delE k es).map (ent kv)).toArray c)) := by
    have e0 : (#[t, tk] : Array TypeId)[0]? = some t := rfl
    have e1 : (#[Value.map (some b), kv k] : Array Value)[0]? = some (.map (some b)) := rfl
    have e2 : (#[Value.map (some b), kv k] : Array Value)[1]? = some (kv k) := rfl
    simp only [Builtin.delete_, e0, e1, e2, Sem.run_bind, run_underlying ht, Result.andThen_ok, getObj, Sem.run, hb, K.chk, List.toList_toArray, K.find, findI_eq]
    unfold delE
    cases hf : es.findIdx? fun x => decide (x.1 = k) with
    | none => simp [run_setObj_map hb]
    | some j =>
      obtain ⟨hjl, _, _⟩ := List.findIdx?_eq_some_iff_getElem.1 hf
      simp only [Option.bind_some, List.getElem?_eq_getElem hjl, Option.map_some, Nat.zero_add, run_setObj_map hb, Result.andThen_ok, Sem.run_pure]
      simp [Array.eraseIdxIfInBounds, hjl, Go.ChangeMaps.map_eraseIdx, run_setObj_map hb]
  simp only [vS, Sem.run_bind, hr, Result.andThen_ok, Sem.run_pure]
  exact ⟨fr_set hM.1, n _ _ (grown_set hX hk) ⟨.inl h.1, set_at hlt, h.2.2.1.sublist (hsub.map _), h.2.2.2.1.sublist (hsub.map _), fun x hx => h.2.2.2.2 x (hsub.subset hx)⟩⟩
def ItIs (w : World) (X : XS) (r b : Nat) (kv : κ → Value) (es : List (Ent κ)) (c : Nat) (left : List (Ent κ)) : Prop :=
  MapIs w X b kv es c ∧ X r ∧ r ≠ b ∧ ∃ seen : Array Nat, w.heap[r]? = some (.mapIter (some b) c seen c) ∧ left = es.filter (fun x => !seen.contains x.2.2)
theorem ItIs.kp {r b : Nat} {kv : κ → Value} {es left : List (Ent κ)} {c : Nat} {w' : World} (h : ItIs w X r b kv es c left) (hk : Kp X w w') : ItIs w' X r b kv es c left :=
  ⟨h.1.kp hk, h.2.1, h.2.2.1, let ⟨s, hs, hl⟩ := h.2.2.2; ⟨s, by rw [hk.block r h.2.1]; exact hs, hl⟩⟩
theorem ItIs.mono {r b : Nat} {kv : κ → Value} {es left : List (Ent κ)} {c : Nat} {Y : XS} (h : ItIs w X r b kv es c left) (hs : ∀ k, X k → Y k) : ItIs w Y r b kv es c left :=
  ⟨h.1.mono hs, hs _ h.2.1, h.2.2⟩
theorem ItIs.since {r b : Nat} {kv : κ → Value} {es left : List (Ent κ)} {c : Nat} {Y : XS} {w' : World} (h : ItIs w X r b kv es c left) (hs : Since X w Y w') : ItIs w' Y r b kv es c left :=
  (h.kp hs.kp).mono hs.sub
theorem eV_range {t kt et b c : Nat} {kv : κ → Value} {es : List (Ent κ)} {N : Value → World → XS → Prop} (h : MapIs w X b kv es c) (ht : P.underlying t = some (.map kt et))
    (hX : ∀ k, X k → k < w.heap.size) (n : ∀ r w' X', w.heap.size ≤ r → Since X w X' w' → ItIs w' X' r b kv es c es → N (ptr r 0) w' X') :
    eV P R X w m (Instr.range t (.map (some b))) N := by
  intro wa hk
  have hM := h.kp hk
  have hb := hM.2.1
  have hlt : b < wa.heap.size := (Array.getElem?_eq_some_iff.1 hb).1
  unfold effW
  have hr : (Instr.range t (.map (some b))).run P wa = .ok (ptr wa.heap.size 0) (wa.alloc (.mapIter (some b) c #[] c)) := by
    simp [Instr.range, run_underlying ht, getObj, Sem.run, hb]
  simp only [vS, Sem.run_bind, hr, Result.andThen_ok, Sem.run_pure]
  have hx : Ext wa (wa.alloc (.mapIter (some b) c #[] c)) := Ext.alloc _ _
  have hs := Since.of_ext hX hk hx
  exact ⟨Step.of_ext hx, n _ _ _ hk.size hs ⟨h.since hs, .inr ⟨Nat.le_refl _, by simp⟩, by omega, #[], heap_alloc_new wa _, (List.filter_eq_self.2 (by simp)).symm⟩⟩
theorem eV_next {ty r b c : Nat} {kv : κ → Value} {es left : List (Ent κ)} {N : Value → World → XS → Prop} (h : ItIs w X r b kv es c left) (hX : ∀ k, X k → k < w.heap.size)
    (n0 : left = [] → ∀ w' X', Since X w X' w' → N (.tuple #[.bool false]) w' X')
    (n1 : ∀ x ∈ left, ∀ w' X', Grown X w X' w' (some r) → ItIs w' X' r b kv es c (left.filter fun y => decide (y.2.2 ≠ x.2.2)) →
      (∀ wa, Kp X' w' wa → (Instr.entry (ptr r 0)).run P wa = .ok (.tuple #[kv x.1, x.2.1]) wa) → N (.tuple #[.bool true, kv x.1, x.2.1]) w' X') :
    eV P R X w true (Instr.next (ptr r 0) false ty) N := by
  intro wa hk
  obtain ⟨hM, hXr, hrb, seen, hr, hleft⟩ := h.kp hk
  have hb := hM.2.1
  have hrl : r < wa.heap.size := (Array.getElem?_eq_some_iff.1 hr).1
  unfold effW
  have hold : ∀ x ∈ ((es.map (ent kv)).toArray).toList, x.born < c := by
    intro x hx
    simp only [List.toList_toArray, List.mem_map] at hx
    obtain ⟨y, hy, rfl⟩ := hx
    exact hM.2.2.2.2 y hy
  have hlo : (leftOf (es.map (ent kv)).toArray seen).toList = left.map (ent kv) := by
    rw [hleft]
    simp only [leftOf, Array.toList_filter, List.toList_toArray, List.filter_map]
    rfl
  rcases run_next_at (P := P) wa ty r b c c seen _ c hr hb hold (Nat.le_refl _) with ⟨hz, hrun⟩ | ⟨e, he, w1, hw1, hrun⟩
  · simp only [vS, Sem.run_bind, hrun, Result.andThen_ok, Sem.run_pure]
    have h0 : left = [] := by
      have : left.map (ent kv) = [] := by rw [← hlo]; exact List.eq_nil_of_length_eq_zero (by simpa using hz)
      simpa using this
    exact ⟨Step.of_ext (Ext.refl _), n0 h0 _ _ (Since.of_ext hX hk (Ext.refl _))⟩
  · rw [hlo] at he
    obtain ⟨x, hx, rfl⟩ := List.mem_map.1 he
    simp only [vS, Sem.run_bind, hrun, Result.andThen_ok, Sem.run_pure]
    have hk1 : Kp X w w1 := by
      rcases hw1 with rfl | rfl
      · exact hk
      · exact ⟨hk.os, hk.tape, hk.output, hk.size, hk.block⟩
    have hrl1 : r < w1.heap.size := by rcases hw1 with rfl | rfl <;> exact hrl
    have hb1 : w1.heap[b]? = some (.map (es.map (ent kv)).toArray c) := by rcases hw1 with rfl | rfl <;> exact hb
    have hfr1 : Fr X wa w1 := by rcases hw1 with rfl | rfl <;> exact ⟨rfl, rfl, rfl, Nat.le_refl _, fun _ _ _ => rfl⟩
    have hbs : ∀ o, (setBlock w1 r o).heap[b]? = some (.map (es.map (ent kv)).toArray c) := by
      intro o
      rw [← hb1]
      simp [setBlock, Array.getElem?_setIfInBounds, hrb]
    have hgs : w1.heap.size = wa.heap.size := by rcases hw1 with rfl | rfl <;> rfl
    have hgrow : grow X wa (setBlock w1 r (.mapIter (some b) c (seen.push x.2.2) c)) = grow X w1 (setBlock w1 r (.mapIter (some b) c (seen.push x.2.2) c)) := by
      unfold grow; rw [hgs]
    have hG := grown_set (o := .mapIter (some b) c (seen.push x.2.2) c) (b := r) hX hk1
    have hit : ItIs (setBlock w1 r (.mapIter (some b) c (seen.push x.2.2) c)) (grow X w1 (setBlock w1 r (.mapIter (some b) c (seen.push x.2.2) c))) r b kv es c (left.filter fun y => decide (y.2.2 ≠ x.2.2)) := by
      refine ⟨⟨.inl hM.1, hbs _, hM.2.2⟩, .inl hXr, hrb, seen.push x.2.2, set_at hrl1, ?_⟩
      rw [hleft, List.filter_filter]
      congr 1
      funext y
      by_cases hy : y.2.2 = x.2.2 <;> simp [hy, Array.contains_push, Bool.beq_eq_decide_eq]
    show Fr X wa _ ∧ N _ _ (grow X wa _)
    refine ⟨hfr1.trans (fr_set hXr), ?_⟩
    show N (.tuple #[.bool true, kv x.1, x.2.1]) (setBlock w1 r (.mapIter (some b) c (seen.push x.2.2) c)) (grow X wa (setBlock w1 r (.mapIter (some b) c (seen.push x.2.2) c)))
    rw [hgrow]
    refine n1 x hx _ _ hG hit fun wb hkb => ?_
    have hitb := hit.kp hkb
    have hxe : x ∈ es := by rw [hleft] at hx; exact (List.mem_filter.1 hx).1
    exact run_entry_at (P := P) wb r b c seen (es.map (ent kv)).toArray c (ent kv x) (by rw [hkb.block r (.inl hXr)]; exact set_at hrl1) hitb.1.2.1 (by rw [List.toList_toArray]; exact List.mem_map.2 ⟨x, hxe, rfl⟩)
      (by rw [List.toList_toArray, List.map_map]; exact hM.2.2.2.1)
theorem eV_entry {r : Nat} {k v : Value} {N : Value → World → XS → Prop} (hX : ∀ k, X k → k < w.heap.size)
    (h : ∀ wa, Kp X w wa → (Instr.entry (ptr r 0)).run P wa = .ok (.tuple #[k, v]) wa) (n : ∀ w' X', Since X w X' w' → N (.tuple #[k, v]) w' X') :
    eV P R X w m (Instr.entry (ptr r 0)) N := by
  intro wa hk
  unfold effW
  simp only [vS, Sem.run_bind, h wa hk, Result.andThen_ok, Sem.run_pure]
  exact ⟨Step.of_ext (Ext.refl _), n _ _ (Since.of_ext hX hk (Ext.refl _))⟩
end Go.Eng
namespace Go.Eng
variable {P : Program} {R : Ending → World → Prop} {X : XS} {w : World} {m : Bool} {N : Value → Prop}
def un (e : Value) (M : Value → Prop) : Prop := M e
def jn {α : Type} (r : α) (B : α → Prop) : Prop := B r
def fld (S f _fo _sz : Nat) (x : Value) : Sem Value := Instr.fieldAt S x f
def ld1 (t : TypeId) (x : Value) : Sem Value := Instr.loadAt t x
def ldA (t : TypeId) (_n : Nat) (x : Value) : Sem Value := Instr.loadAt t x
def st1 (t : TypeId) (_n : Nat) (x v : Value) : Sem Unit := Instr.storeAt t x v
def ixS (t : TypeId) (_k : Nat) (v i : Value) : Sem Value := Instr.indexAt t v i
def lnS (t ty : TypeId) (v : Value) : Sem Value := Builtin.len_ #[t] ty #[v]
def lnT (t ty : TypeId) (v : Value) : Sem Value := Builtin.len_ #[t] ty #[v]
def bld (t : TypeId) (_cells : Array Value) (parts : Array (Nat × Value)) : Sem Value := Instr.build t parts
def cvI (_k : IntKind) (src dst : TypeId) (x : Value) : Sem Value := convert src dst x
def cvF (src dst : TypeId) (x : Value) : Sem Value := convert src dst x
def ixA (t _n _e : Nat) (x i : Value) : Sem Value := Instr.index t x i
def bsS (t _e _k len : Nat) (parts : Array (Nat × Value)) : Sem Value := Instr.buildSlice t len parts
def apS (t _e _k _bytes ty : Nat) (v s : Value) : Sem Value := Builtin.append_ #[t, t] ty #[v, s]
def fdV (S f _fo _sz : Nat) (x : Value) : Sem Value := Instr.field S x f
abbrev I (x : Int) : Value := .int .i64 x
abbrev B (x : Bool) : Value := .bool x
def lp0 (X : XS) (w : World) (F : JT → Nat → World → XS → Prop) : Prop := lpW X w [] [] fun J n _ w X => F J n w X
def lp1 (X : XS) (w : World) (v1 : Value) (c1 : Nat) (F : JT → Nat → Value → World → XS → Prop) : Prop := lpW X w [v1] [c1] fun J n e w X => F J n (e c1) w X
def lp2 (X : XS) (w : World) (v1 v2 : Value) (c1 c2 : Nat) (F : JT → Nat → Value → Value → World → XS → Prop) : Prop :=
  lpW X w [v1, v2] [c1, c2] fun J n e w X => F J n (e c1) (e c2) w X
def lp3 (X : XS) (w : World) (v1 v2 v3 : Value) (c1 c2 c3 : Nat) (F : JT → Nat → Value → Value → Value → World → XS → Prop) : Prop :=
  lpW X w [v1, v2, v3] [c1, c2, c3] fun J n e w X => F J n (e c1) (e c2) (e c3) w X
def lp4 (X : XS) (w : World) (v1 v2 v3 v4 : Value) (c1 c2 c3 c4 : Nat) (F : JT → Nat → Value → Value → Value → Value → World → XS → Prop) : Prop :=
  lpW X w [v1, v2, v3, v4] [c1, c2, c3, c4] fun J n e w X => F J n (e c1) (e c2) (e c3) (e c4) w X
def lp5 (X : XS) (w : World) (v1 v2 v3 v4 v5 : Value) (c1 c2 c3 c4 c5 : Nat) (F : JT → Nat → Value → Value → Value → Value → Value → World → XS → Prop) : Prop :=
  lpW X w [v1, v2, v3, v4, v5] [c1, c2, c3, c4, c5] fun J n e w X => F J n (e c1) (e c2) (e c3) (e c4) (e c5) w X
def lp6 (X : XS) (w : World) (v1 v2 v3 v4 v5 v6 : Value) (c1 c2 c3 c4 c5 c6 : Nat) (F : JT → Nat → Value → Value → Value → Value → Value → Value → World → XS → Prop) : Prop :=
  lpW X w [v1, v2, v3, v4, v5, v6] [c1, c2, c3, c4, c5, c6] fun J n e w X => F J n (e c1) (e c2) (e c3) (e c4) (e c5) (e c6) w X
def lp7 (X : XS) (w : World) (v1 v2 v3 v4 v5 v6 v7 : Value) (c1 c2 c3 c4 c5 c6 c7 : Nat) (F : JT → Nat → Value → Value → Value → Value → Value → Value → Value → World → XS → Prop) : Prop :=
  lpW X w [v1, v2, v3, v4, v5, v6, v7] [c1, c2, c3, c4, c5, c6, c7] fun J n e w X => F J n (e c1) (e c2) (e c3) (e c4) (e c5) (e c6) (e c7) w X
def nx0 (J : JT) (n : Nat) (w : World) (X : XS) : Prop := nxt J n [] w X
def nx1 (J : JT) (n : Nat) (a : Value) (w : World) (X : XS) : Prop := nxt J n [a] w X
def nx2 (J : JT) (n : Nat) (a b : Value) (w : World) (X : XS) : Prop := nxt J n [a, b] w X
def nx3 (J : JT) (n : Nat) (a b c : Value) (w : World) (X : XS) : Prop := nxt J n [a, b, c] w X
def nx4 (J : JT) (n : Nat) (a b c d : Value) (w : World) (X : XS) : Prop := nxt J n [a, b, c, d] w X
def nx5 (J : JT) (n : Nat) (a b c d f : Value) (w : World) (X : XS) : Prop := nxt J n [a, b, c, d, f] w X
def nx6 (J : JT) (n : Nat) (a b c d f g : Value) (w : World) (X : XS) : Prop := nxt J n [a, b, c, d, f, g] w X
def nx7 (J : JT) (n : Nat) (a b c d f g h : Value) (w : World) (X : XS) : Prop := nxt J n [a, b, c, d, f, g, h] w X
def J0 (I : Nat → World → XS → Prop) : JT := fun n _ w X => I n w X
def J1 (I : Nat → Value → World → XS → Prop) : JT := fun n vs w X => match vs with
  | [a] => I n a w X
  | _ => False
def J2 (I : Nat → Value → Value → World → XS → Prop) : JT := fun n vs w X => match vs with
  | [a, b] => I n a b w X
  | _ => False
def J3 (I : Nat → Value → Value → Value → World → XS → Prop) : JT := fun n vs w X => match vs with
  | [a, b, c] => I n a b c w X
  | _ => False
theorem lp0_of {F} (I : Nat → World → XS → Prop) (n : Nat) (h0 : I n w X)
    (h : ∀ n w' X', I n w' X' → F (J0 I) n w' X') : lp0 X w F := ⟨J0 I, ⟨n, h0⟩, fun n _ w' X' _ hj => h n w' X' hj⟩
theorem lp1_of {v1 c1 F} (I : Nat → Value → World → XS → Prop) (n : Nat) (h0 : I n v1 w X)
    (h : ∀ n a w' X', I n a w' X' → F (J1 I) n a w' X') : lp1 X w v1 c1 F := ⟨J1 I, ⟨n, h0⟩, fun n e w' X' _ hj => h n (e c1) w' X' hj⟩
theorem lp2_of {v1 v2 c1 c2 F} (I : Nat → Value → Value → World → XS → Prop) (n : Nat) (h0 : I n v1 v2 w X)
    (h : ∀ n a b w' X', I n a b w' X' → F (J2 I) n a b w' X') : lp2 X w v1 v2 c1 c2 F := ⟨J2 I, ⟨n, h0⟩, fun n e w' X' _ hj => h n (e c1) (e c2) w' X' hj⟩
theorem lp3_of {v1 v2 v3 c1 c2 c3 F} (I : Nat → Value → Value → Value → World → XS → Prop) (n : Nat) (h0 : I n v1 v2 v3 w X)
    (h : ∀ n a b c w' X', I n a b c w' X' → F (J3 I) n a b c w' X') : lp3 X w v1 v2 v3 c1 c2 c3 F := ⟨J3 I, ⟨n, h0⟩, fun n e w' X' _ hj => h n (e c1) (e c2) (e c3) w' X' hj⟩
theorem nx0_of {I n} (k : Nat) (hk : k < n) (h : I k w X) : nx0 (J0 I) n w X := ⟨k, hk, h⟩
theorem nx1_of {I n a} (k : Nat) (hk : k < n) (h : I k a w X) : nx1 (J1 I) n a w X := ⟨k, hk, h⟩
theorem nx2_of {I n a b} (k : Nat) (hk : k < n) (h : I k a b w X) : nx2 (J2 I) n a b w X := ⟨k, hk, h⟩
theorem nx3_of {I n a b c} (k : Nat) (hk : k < n) (h : I k a b c w X) : nx3 (J3 I) n a b c w X := ⟨k, hk, h⟩
theorem jn_of {α : Type} {r : α} {F : α → Prop} (h : F r) : jn r F := h
theorem jn_by {α : Type} {r : α} {F : α → Prop} (Q : α → Prop) (h : Q r) (k : ∀ c, Q c → F c) : jn r F := k r h
theorem un_cell {l : List Value} {i : Nat} {a : Value} {M : Value → Prop} (h : l[i]? = some a) (k : M a) : un (cellOf (.agg l.toArray) i) M := by
  have : cellOf (.agg l.toArray) i = a := by simp [cellOf, Value.cells, List.getD, h]
  unfold un; rw [this]; exact k
theorem un_sub {l : List Value} {o n : Nat} {M : Value → Prop} (k : M (.agg ((l.drop o).take n).toArray)) : un (subOf (.agg l.toArray) o n) M := by
  have : subOf (.agg l.toArray) o n = .agg ((l.drop o).take n).toArray := by simp [subOf, Value.cells]
  unfold un; rw [this]; exact k
theorem un_box {c : Array Value} {M : Value → Prop} (k : M (.agg c)) : un (.agg (Value.cells (.agg c))) M := k
theorem un_selT {v : Value} {M : Value → Prop} (k : M v) : un (gSel (.bool true) true v) M := k
theorem un_selF {v : Value} {M : Value → Prop} (k : M v) : un (gSel (.bool false) false v) M := k
theorem un_selTF {v : Value} {M : Value → Prop} (k : M undef) : un (gSel (.bool true) false v) M := k
theorem un_selFT {v : Value} {M : Value → Prop} (k : M undef) : un (gSel (.bool false) true v) M := k
theorem un_selU {v : Value} {q : Bool} {M : Value → Prop} (k : M undef) : un (gSel undef q v) M := by
  have : gSel undef q v = undef := by cases q <;> rfl
  unfold un; rw [this]; exact k
theorem chk_T {b : Bool} {A : Prop} (h : b = true) (k : A) : chk b A := by subst h; exact k
theorem condW_T {A C : Prop} (h : A) : condW (.bool true) A C := ⟨fun _ => h, fun h => absurd h (by simp)⟩
theorem condW_F {A C : Prop} (h : C) : condW (.bool false) A C := ⟨fun h => absurd h (by simp), fun _ => h⟩
theorem grdW_U {s : Sem Next} {want : Bool} (h : N undef) : grdW P X w undef want s N := by
  have e : gWant undef want = false := by cases want <;> rfl
  unfold grdW
  exact ⟨undef, fun hf => absurd (e.symm.trans hf) (by simp), fun _ => rfl, h⟩
theorem grdV_onT {s : Sem Value} (h : rdV P X w s N) : grdW P X w (.bool true) true (vS s) N := grdW_on h
theorem grdV_onF {s : Sem Value} (h : rdV P X w s N) : grdW P X w (.bool false) false (vS s) N := grdW_on h
section
variable {t : TypeId} {k : IntKind} {a b : Int} {xo yo : Operand}
theorem r_lss (hT : a < b → N (.bool true)) (hF : ¬ a < b → N (.bool false)) : rdV P X w (binOp .lss t (.int k a) (.int k b)) N :=
  rdV_lss (by by_cases h : a < b; · rw [decide_eq_true h]; exact hT h
              · rw [decide_eq_false h]; exact hF h)
theorem r_leq (hT : a ≤ b → N (.bool true)) (hF : ¬ a ≤ b → N (.bool false)) : rdV P X w (binOp .leq t (.int k a) (.int k b)) N :=
  rdV_leq (by by_cases h : a ≤ b; · rw [decide_eq_true h]; exact hT h
              · rw [decide_eq_false h]; exact hF h)
theorem r_gtr (hT : a > b → N (.bool true)) (hF : ¬ a > b → N (.bool false)) : rdV P X w (binOp .gtr t (.int k a) (.int k b)) N :=
  rdV_gtr (by by_cases h : a > b; · rw [decide_eq_true h]; exact hT h
              · rw [decide_eq_false h]; exact hF h)
theorem r_geq (hT : a ≥ b → N (.bool true)) (hF : ¬ a ≥ b → N (.bool false)) : rdV P X w (binOp .geq t (.int k a) (.int k b)) N :=
  rdV_geq (by by_cases h : a ≥ b; · rw [decide_eq_true h]; exact hT h
              · rw [decide_eq_false h]; exact hF h)
theorem r_eql (hT : a = b → N (.bool true)) (hF : ¬ a = b → N (.bool false)) : rdV P X w (binS .eql t xo yo (.int k a) (.int k b)) N :=
  rdV_eql (by by_cases h : a = b; · rw [decide_eq_true h]; exact hT h
              · rw [decide_eq_false h]; exact hF h)
theorem r_neq (hT : ¬ a = b → N (.bool true)) (hF : a = b → N (.bool false)) : rdV P X w (binS .neq t xo yo (.int k a) (.int k b)) N :=
  rdV_neq (by by_cases h : a = b; · rw [decide_eq_false (fun hn => hn h)]; exact hF h
              · rw [decide_eq_true h]; exact hT h)
theorem r_lssT (h : a < b) (k' : N (.bool true)) : rdV P X w (binOp .lss t (.int k a) (.int k b)) N := r_lss (fun _ => k') (fun hn => absurd h hn)
theorem r_lssF (h : ¬ a < b) (k' : N (.bool false)) : rdV P X w (binOp .lss t (.int k a) (.int k b)) N := r_lss (fun hn => absurd hn h) (fun _ => k')
theorem r_leqF (h : ¬ a ≤ b) (k' : N (.bool false)) : rdV P X w (binOp .leq t (.int k a) (.int k b)) N := r_leq (fun hn => absurd hn h) (fun _ => k')
theorem r_gtrT (h : a > b) (k' : N (.bool true)) : rdV P X w (binOp .gtr t (.int k a) (.int k b)) N := r_gtr (fun _ => k') (fun hn => absurd h hn)
theorem r_gtrF (h : ¬ a > b) (k' : N (.bool false)) : rdV P X w (binOp .gtr t (.int k a) (.int k b)) N := r_gtr (fun hn => absurd hn h) (fun _ => k')
theorem r_geqT (h : a ≥ b) (k' : N (.bool true)) : rdV P X w (binOp .geq t (.int k a) (.int k b)) N := r_geq (fun _ => k') (fun hn => absurd h hn)
theorem r_geqF (h : ¬ a ≥ b) (k' : N (.bool false)) : rdV P X w (binOp .geq t (.int k a) (.int k b)) N := r_geq (fun hn => absurd hn h) (fun _ => k')
theorem r_eqlT (h : a = b) (k' : N (.bool true)) : rdV P X w (binS .eql t xo yo (.int k a) (.int k b)) N := r_eql (fun _ => k') (fun hn => absurd h hn)
theorem r_eqlF (h : ¬ a = b) (k' : N (.bool false)) : rdV P X w (binS .eql t xo yo (.int k a) (.int k b)) N := r_eql (fun hn => absurd hn h) (fun _ => k')
theorem r_neqT (h : ¬ a = b) (k' : N (.bool true)) : rdV P X w (binS .neq t xo yo (.int k a) (.int k b)) N := r_neq (fun _ => k') (fun hn => absurd hn h)
theorem r_neqF (h : a = b) (k' : N (.bool false)) : rdV P X w (binS .neq t xo yo (.int k a) (.int k b)) N := r_neq (fun hn => absurd h hn) (fun _ => k')
theorem r_add (h1 : -(2 ^ 63) ≤ a + b) (h2 : a + b < 2 ^ 63) (h : N (.int .i64 (a + b))) : rdV P X w (binOp .add t (.int .i64 a) (.int .i64 b)) N :=
  rdV_add (by rw [wrap_i64 h1 h2]; exact h)
theorem r_sub (h1 : -(2 ^ 63) ≤ a - b) (h2 : a - b < 2 ^ 63) (h : N (.int .i64 (a - b))) : rdV P X w (binOp .sub t (.int .i64 a) (.int .i64 b)) N :=
  rdV_sub (by rw [wrap_i64 h1 h2]; exact h)
end
theorem bytes_eq {a b : ByteArray} : a.toList = b.toList ↔ a = b := by
  constructor
  · intro h
    rw [ByteArray.toList_eq, ByteArray.toList_eq] at h
    obtain ⟨⟨x⟩⟩ := a; obtain ⟨⟨y⟩⟩ := b
    simpa using h
  · intro h; rw [h]
def tlt (a b : ByteArray) : Bool := Op.bytesLess a.toList b.toList
section
variable {t : TypeId} {a b : ByteArray} {xo yo : Operand}
theorem r_seql (hT : a = b → N (.bool true)) (hF : ¬ a = b → N (.bool false)) : rdV P X w (binS .eql t xo yo (.string a) (.string b)) N :=
  rdV_seql (by simp only [bytes_eq]; by_cases h : a = b
               · rw [decide_eq_true h]; exact hT h
               · rw [decide_eq_false h]; exact hF h)
theorem r_sneq (hT : ¬ a = b → N (.bool true)) (hF : a = b → N (.bool false)) : rdV P X w (binS .neq t xo yo (.string a) (.string b)) N :=
  rdV_sneq (by simp only [ne_eq, bytes_eq]; by_cases h : a = b
               · rw [decide_eq_false (fun hn => hn h)]; exact hF h
               · rw [decide_eq_true h]; exact hT h)
theorem r_slss (hT : tlt a b = true → N (.bool true)) (hF : tlt a b = false → N (.bool false)) : rdV P X w (binOp .lss t (.string a) (.string b)) N :=
  rdV_slss (by unfold tlt at hT hF; cases h : Op.bytesLess a.toList b.toList
               · exact hF h
               · exact hT h)
theorem r_sgeq (hT : tlt a b = false → N (.bool true)) (hF : tlt a b = true → N (.bool false)) : rdV P X w (binOp .geq t (.string a) (.string b)) N :=
  rdV_sgeq (by unfold tlt at hT hF; cases h : Op.bytesLess a.toList b.toList
               · exact hT h
               · exact hF h)
theorem r_sleq (hT : tlt a b = true ∨ a = b → N (.bool true)) (hF : tlt a b = false → ¬ a = b → N (.bool false)) : rdV P X w (binOp .leq t (.string a) (.string b)) N :=
  rdV_sleq (by
    unfold tlt at hT hF; simp only [bytes_eq]
    cases h : Op.bytesLess a.toList b.toList
    · by_cases h2 : a = b
      · simp only [h2, decide_true, Bool.or_true]; exact hT (.inr h2)
      · simp only [h2, decide_false, Bool.or_false]; exact hF h h2
    · simp only [Bool.true_or]; exact hT (.inl h))
end
def flt (a b : Nat) : Bool := FloatKind.f64.format.order a b == some .lt
def feq (a b : Nat) : Bool := FloatKind.f64.format.order a b == some .eq
def fgt (a b : Nat) : Bool := FloatKind.f64.format.order a b == some .gt
section
variable {t : TypeId} {a b : Nat} {xo yo : Operand}
theorem r_flss (hT : flt a b = true → N (.bool true)) (hF : flt a b = false → N (.bool false)) : rdV P X w (binOp .lss t (.float .f64 a) (.float .f64 b)) N :=
  rdV_flss (by unfold flt at hT hF; cases h : (FloatKind.f64.format.order a b == some .lt)
               · exact hF h
               · exact hT h)
theorem r_fgtr (hT : fgt a b = true → N (.bool true)) (hF : fgt a b = false → N (.bool false)) : rdV P X w (binOp .gtr t (.float .f64 a) (.float .f64 b)) N :=
  rdV_fgtr (by unfold fgt at hT hF; cases h : (FloatKind.f64.format.order a b == some .gt)
               · exact hF h
               · exact hT h)
theorem r_fleq (hT : flt a b = true ∨ feq a b = true → N (.bool true)) (hF : flt a b = false → feq a b = false → N (.bool false)) : rdV P X w (binOp .leq t (.float .f64 a) (.float .f64 b)) N :=
  rdV_fleq (by
    unfold flt feq at hT hF
    cases h : (FloatKind.f64.format.order a b == some .lt)
    · cases h2 : (FloatKind.f64.format.order a b == some .eq)
      · exact hF h h2
      · exact hT (.inr h2)
    · exact hT (.inl h))
theorem r_fgeq (hT : fgt a b = true ∨ feq a b = true → N (.bool true)) (hF : fgt a b = false → feq a b = false → N (.bool false)) : rdV P X w (binOp .geq t (.float .f64 a) (.float .f64 b)) N :=
  rdV_fgeq (by
    unfold fgt feq at hT hF
    cases h : (FloatKind.f64.format.order a b == some .gt)
    · cases h2 : (FloatKind.f64.format.order a b == some .eq)
      · exact hF h h2
      · exact hT (.inr h2)
    · exact hT (.inl h))
theorem r_fneq (hT : feq a b = false → N (.bool true)) (hF : feq a b = true → N (.bool false)) : rdV P X w (binS .neq t xo yo (.float .f64 a) (.float .f64 b)) N :=
  rdV_fneq (by
    unfold feq at hT hF
    show N (.bool (!(FloatKind.f64.format.order a b == some .eq)))
    cases h : (FloatKind.f64.format.order a b == some .eq)
    · exact hT h
    · exact hF h)
end
theorem r_notT (h : N (.bool false)) : rdV P X w (Op.unary .not (.bool true)) N := rdV_not h
theorem r_notF (h : N (.bool true)) : rdV P X w (Op.unary .not (.bool false)) N := rdV_not h
section
variable {t : TypeId} {xo yo : Operand} {a b c a' b' c' : Int}
theorem r_eql3 (h : intStruct P t 3 = true) (hT : a = a' → b = b' → c = c' → N (.bool true)) (hF : ¬ (a = a' ∧ b = b' ∧ c = c') → N (.bool false)) :
    rdV P X w (binS .eql t xo yo (.agg #[.int .i64 a, .int .i64 b, .int .i64 c]) (.agg #[.int .i64 a', .int .i64 b', .int .i64 c'])) N :=
  rdV_eql3 h (by by_cases hc : a = a' ∧ b = b' ∧ c = c'
                 · rw [decide_eq_true hc]; exact hT hc.1 hc.2.1 hc.2.2
                 · rw [decide_eq_false hc]; exact hF hc)
theorem r_neq3 (h : intStruct P t 3 = true) (hT : ¬ (a = a' ∧ b = b' ∧ c = c') → N (.bool true)) (hF : a = a' → b = b' → c = c' → N (.bool false)) :
    rdV P X w (binS .neq t xo yo (.agg #[.int .i64 a, .int .i64 b, .int .i64 c]) (.agg #[.int .i64 a', .int .i64 b', .int .i64 c'])) N :=
  rdV_neq3 h (by by_cases hc : a = a' ∧ b = b' ∧ c = c'
                 · rw [decide_eq_true hc]; exact hF hc.1 hc.2.1 hc.2.2
                 · rw [decide_eq_false hc]; exact hT hc)
end
theorem r_ld1 {t : TypeId} {b o : Nat} {v : Value} {l : List Value} (h : Cells w X b o l) (hi : tyInfo P t = some (false, 1)) (hl : l[0]? = some v) (k : N v) :
    rdV P X w (ld1 t (ptr b o)) N := by
  cases l with
  | nil => cases hl
  | cons x r =>
    simp only [List.getElem?_cons_zero, Option.some.injEq] at hl; subst hl
    exact rdV_load1 h hi k
theorem r_lnT {t ty : TypeId} {s : ByteArray} (ht : P.underlying t = some .string) (k : N (.int .i64 s.size)) : rdV P X w (lnT t ty (.string s)) N := rdV_slen ht k
theorem r_bld {t : TypeId} {parts : Array (Nat × Value)} {cells : Array Value} (h : P.built t parts.toList = some cells) (k : N (.agg cells)) :
    rdV P X w (bld t cells parts) N := rdV_build cells h k
theorem r_nil {a : Addr} (h : N (.pointer (some a))) : rdW P X w (nilN (.pointer (some a))) N := rdW_nil h
theorem r_pureB {f : FuncId} {args : Array Value} {b : Bool} {N : Value → World → XS → Prop}
    (h : Pure P f args (.bool b)) (hf : enters P f = true) (hX : ∀ k, X k → k < w.heap.size)
    (hT : b = true → ∀ w' X', Since X w X' w' → N (.bool true) w' X') (hF : b = false → ∀ w' X', Since X w X' w' → N (.bool false) w' X') :
    eC P R X w m f args N := eC_pure hf hX h (by
    cases b
    · exact hF rfl
    · exact hT rfl)
theorem r_pure {f : FuncId} {args : Array Value} {v : Value} {N : Value → World → XS → Prop}
    (h : Pure P f args v) (hf : enters P f = true) (hX : ∀ k, X k → k < w.heap.size)
    (k : ∀ w' X', Since X w X' w' → N v w' X') : eC P R X w m f args N := eC_pure hf hX h k
structure Chg (F X : XS) (w : World) (X' : XS) (w' : World) : Prop where
  os : w'.os = w.os
  tape : w'.tape = w.tape
  output : w'.output = w.output
  size : w.heap.size ≤ w'.heap.size
  block : ∀ k, X k → ¬ F k → w'.heap[k]? = w.heap[k]?
  sub : ∀ k, X k → X' k
  has : ∀ k, X' k → k < w'.heap.size
theorem Chg.since {F Y X' : XS} {w' : World} (c : Chg F X w X' w') (hY : ∀ k, Y k → X k ∧ ¬ F k) : Since Y w X' w' :=
  ⟨⟨c.os, c.tape, c.output, c.size, fun k hk => c.block k (hY k hk).1 (hY k hk).2⟩, fun k hk => c.sub k (hY k hk).1, c.has⟩
theorem Since.chg {F X0 X' : XS} {w0 w' : World} (h : Since X0 w0 X w) (c : Chg F X w X' w') (hd : ∀ k, X0 k → ¬ F k) : Since X0 w0 X' w' :=
  ⟨⟨c.os.trans h.kp.os, c.tape.trans h.kp.tape, c.output.trans h.kp.output, Nat.le_trans h.kp.size c.size,
    fun k hk => (c.block k (h.sub k hk) (hd k hk)).trans (h.kp.block k hk)⟩, fun k hk => c.sub k (h.sub k hk), c.has⟩
theorem Chg.of_fr {F : XS} {wa w' : World} (hX : ∀ k, X k → k < w.heap.size) (hk : Kp X w wa) (hf : Fr F wa w') : Chg F X w (grow X wa w') w' :=
  ⟨hf.os.trans hk.os, hf.tape.trans hk.tape, hf.output.trans hk.output, Nat.le_trans hk.size hf.size,
    fun k hx hn => (hf.block k (Nat.lt_of_lt_of_le (hX k hx) hk.size) hn).trans (hk.block k hx), fun _ h => .inl h,
    fun k h => h.elim (fun h => Nat.lt_of_lt_of_le (hX k h) (Nat.le_trans hk.size hf.size)) (fun h => h.2)⟩
theorem Chg.of_since {X' : XS} {w' : World} (h : Since X w X' w') (F : XS) : Chg F X w X' w' :=
  ⟨h.kp.os, h.kp.tape, h.kp.output, h.kp.size, fun k hk _ => h.kp.block k hk, h.sub, h.has⟩
theorem Grown.chg {X' : XS} {w' : World} {row : Option Nat} (g : Grown X w X' w' row) : Chg (fun k => some k = row) X w X' w' :=
  ⟨g.os, g.tape, g.output, g.size, fun k hk hn => g.block k hk hn, g.sub, g.has⟩
theorem Chg.trans {F X' X'' : XS} {w' w'' : World} (a : Chg F X w X' w') (b : Chg F X' w' X'' w'') : Chg F X w X'' w'' :=
  ⟨b.os.trans a.os, b.tape.trans a.tape, b.output.trans a.output, Nat.le_trans a.size b.size,
    fun k hk hn => (b.block k (a.sub k hk) hn).trans (a.block k hk hn), fun k hk => b.sub k (a.sub k hk), b.has⟩
theorem Chg.mono {F G X' : XS} {w' : World} (a : Chg F X w X' w') (h : ∀ k, X k → F k → G k) : Chg G X w X' w' :=
  ⟨a.os, a.tape, a.output, a.size, fun k hk hn => a.block k hk fun hf => hn (h k hk hf), a.sub, a.has⟩
def made (w w' : World) : XS := fun g => w.heap.size ≤ g ∧ g < w'.heap.size
def out (F : XS) (w : World) : XS := fun k => k < w.heap.size ∧ ¬ F k
def Ret (F : XS) (w0 : World) (Q : Value → World → Prop) : Ending → World → Prop := fun e w' => ∃ v, e = .returned v ∧ Fr F w0 w' ∧ Q v w'
def Ct (P : Program) (f : FuncId) (args : Array Value) (w : World) (X F : XS) (Q : Value → World → World → Prop) : Prop :=
  ∀ wa, Kp X w wa → Calls P f args wa (Ret F wa fun v w' => Q v wa w')
theorem Ct.mono {f : FuncId} {args : Array Value} {F : XS} {Q Q' : Value → World → World → Prop} (h : Ct P f args w X F Q) (k : ∀ v wa w', Kp X w wa → Q v wa w' → Q' v wa w') : Ct P f args w X F Q' :=
  fun wa hk => (h wa hk).mono fun _ _ ⟨v, he, hf, hq⟩ => ⟨v, he, hf, k v wa _ hk hq⟩
theorem r_ct0 {f : FuncId} {args : Array Value} {N : Value → World → XS → Prop} {Q : Value → World → World → Prop}
    (h : Ct P f args w X nX Q) (hf : enters P f = true) (hX : ∀ k, X k → k < w.heap.size)
    (k : ∀ v wa w' X', Q v wa w' → w.heap.size ≤ wa.heap.size → (∀ k, made wa w' k → X' k) → Since X w X' w' → N v w' X') : eC P R X w m f args N :=
  eC_gives (Q := Q) hf hX h fun v wa w' X' hk _ hn hq hs => k v wa w' X' hq hk.size (fun g hg => hn g hg.1 hg.2) hs
theorem r_ct {f : FuncId} {args : Array Value} {N : Value → World → XS → Prop} {F : XS} {Q : Value → World → World → Prop}
    (h : Ct P f args w X F Q) (hf : enters P f = true) (hX : ∀ k, X k → k < w.heap.size) (hF : ∀ k, F k → X k)
    (k : ∀ v wa w' X', Q v wa w' → w.heap.size ≤ wa.heap.size → (∀ k, made wa w' k → X' k) → Kp X w wa → Chg F X w X' w' → N v w' X') : eC P R X w true f args N := by
  intro wa hk
  unfold effW; rw [run_enters hf args wa]
  refine ⟨rfl, (h wa hk).mono ?_⟩
  rintro e w' ⟨v, rfl, hfr, hq⟩
  exact ⟨hfr.mono hF, k v wa w' _ hq hk.size (fun g hg => .inr hg) hk (Chg.of_fr hX hk hfr)⟩
theorem fin_ret0 {w0 : World} {v : Value} {Q : Value → World → Prop} (hs : Since (old w0) w0 X w) (h : ∀ wa, Kp X w wa → Q v wa) : fin (Ret nX w0 Q) X w v :=
  fun _ hk => ⟨v, rfl, hs.ext hk, h _ hk⟩
theorem fin_ret {w0 : World} {v : Value} {F : XS} {Q : Value → World → Prop} (hs : Since (out F w0) w0 X w) (h : ∀ wa, Kp X w wa → Q v wa) : fin (Ret F w0 Q) X w v :=
  fun _ hk => ⟨v, rfl, ⟨hk.os.trans hs.kp.os, hk.tape.trans hs.kp.tape, hk.output.trans hs.kp.output, Nat.le_trans hs.kp.size hk.size,
    fun k hl hn => (hk.block k (hs.sub k ⟨hl, hn⟩)).trans (hs.kp.block k ⟨hl, hn⟩)⟩, h _ hk⟩
theorem Since.out (F : XS) (w : World) : Since (out F w) w (old w) w := ⟨Kp.refl _ _, fun _ h => h.1, fun _ h => h⟩
theorem Own.up {w' wa : World} {X' : XS} {lo e k : Nat} {v : Value} {rows : List (List Value)} (h : Own w' (made wa w') wa.heap.size e k v rows) (hin : ∀ k, made wa w' k → X' k) (hl : lo ≤ wa.heap.size) :
    Own w' X' lo e k v rows := (h.mono hin).low hl
theorem Own.chg {F X' : XS} {w' : World} {lo e k : Nat} {v : Value} {rows : List (List Value)} (h : Own w X lo e k v rows) (c : Chg F X w X' w') (hd : ∀ g, v.ownBlock = some g → ¬ F g) : Own w' X' lo e k v rows := by
  obtain ⟨h1, h2, h3⟩ := h
  refine ⟨h1, ⟨h2.1, ?_⟩, fun g hg => c.sub g (h3 g hg)⟩
  rcases h2.2 with h | ⟨g, cap, cur, rfl, hb, hg, hr⟩
  · exact .inl h
  · exact .inr ⟨g, cap, cur, rfl, hb, by rw [c.block g (h3 g rfl) (hd g rfl)]; exact hg, hr⟩
theorem Sl.sub {k : Nat} {v : Value} {rows : List (List Value)} {Y : XS} (h : Sl w X k v rows) (hs : ∀ k, X k → k < w.heap.size → Y k) : Sl w Y k v rows := by
  obtain ⟨h1, h2, base, cap, hv, hc, hr⟩ := h
  exact ⟨h1, h2, base, cap, hv, fun hne => let ⟨b, o, hb, hcs⟩ := hc hne; ⟨b, o, hb, hs _ hcs.1 hcs.lt, hcs.2⟩, hr⟩
theorem Sl.len {k : Nat} {v : Value} {rows : List (List Value)} (h : Sl w X k v rows) : rows.length ≤ 2 ^ 63 - 1 := h.2.1
theorem Sl.len' {α : Type} {enc : α → List Value} {k : Nat} {v : Value} {xs : List α} (h : Sl w X k v (xs.map enc)) : xs.length ≤ 2 ^ 63 - 1 := by have := h.2.1; simpa using this
theorem Cells.sub {b o : Nat} {l : List Value} {Y : XS} (h : Cells w X b o l) (hs : ∀ k, X k → k < w.heap.size → Y k) : Cells w Y b o l := ⟨hs _ h.1 h.lt, h.2⟩
theorem Cells.old {b o : Nat} {l : List Value} (h : Cells w X b o l) : Cells w (old w) b o l := ⟨h.lt, h.2⟩
end Go.Eng
namespace Go.Eng
variable {P : Program} {R : Ending → World → Prop} {X Y Z : XS} {w w' w'' : World} {m : Bool} {N : Value → Prop} {α : Type}
def Mv (X : XS) (w : World) (Y : XS) (w' : World) : Prop := ∀ k, X k → k < w.heap.size → Y k ∧ w'.heap[k]? = w.heap[k]?
theorem Mv.trans (a : Mv X w Y w') (b : Mv Y w' Z w'') : Mv X w Z w'' := fun k hk hl => by
  obtain ⟨h1, h2⟩ := a k hk hl
  have hl' : k < w'.heap.size := by
    have : w'.heap[k]? = some w.heap[k] := by rw [h2]; exact Array.getElem?_eq_getElem hl
    exact (Array.getElem?_eq_some_iff.1 this).1
  obtain ⟨h3, h4⟩ := b k h1 hl'
  exact ⟨h3, h4.trans h2⟩
theorem Since.mv (h : Since X w Y w') : Mv X w Y w' := fun k hk _ => ⟨h.sub k hk, h.kp.block k hk⟩
theorem _root_.Go.Eng.Kp.mv (h : Kp X w w') : Mv X w X w' := fun k hk _ => ⟨hk, h.block k hk⟩
theorem Mv.old : Mv X w (old w) w := fun _ _ hl => ⟨hl, rfl⟩
theorem _root_.Go.Eng.Kp.mvo (h : Kp X w w') : Mv X w (old w') w' := h.mv.trans Mv.old
theorem Mv.out {F : XS} (h : ∀ k, X k → ¬ F k) : Mv X w (Eng.out F w) w := fun k hk hl => ⟨⟨hl, h k hk⟩, rfl⟩
theorem Mv.sub (h : ∀ k, X k → Y k) : Mv X w Y w := fun k hk _ => ⟨h k hk, rfl⟩
theorem Ext.mv (h : Ext w w') : Mv (Eng.old w) w (Eng.old w') w' := fun _ _ hl => ⟨Nat.lt_of_lt_of_le hl h.size, h.block hl⟩
theorem Chg.mv {F A : XS} (c : Chg F X w Y w') (h : ∀ k, A k → X k ∧ ¬ F k) : Mv A w Y w' := fun k hk _ => ⟨c.sub k (h k hk).1, c.block k (h k hk).1 (h k hk).2⟩
theorem Cells.mv {b o : Nat} {l : List Value} (h : Cells w X b o l) (v : Mv X w Y w') : Cells w' Y b o l := by
  have hl := h.lt
  obtain ⟨hx, cs, t, fr, hb, hc⟩ := h
  obtain ⟨h1, h2⟩ := v b hx hl
  exact ⟨h1, cs, t, fr, by rw [h2]; exact hb, hc⟩
theorem Sl.mv {k : Nat} {v : Value} {rows : List (List Value)} (h : Sl w X k v rows) (m : Mv X w Y w') : Sl w' Y k v rows := by
  obtain ⟨h1, h2, base, cap, hv, hc, hr⟩ := h
  exact ⟨h1, h2, base, cap, hv, fun hne => let ⟨b, o, hb, hcs⟩ := hc hne; ⟨b, o, hb, hcs.mv m⟩, hr⟩
theorem Sl.form {k : Nat} {v : Value} {rows : List (List Value)} (h : Sl w X k v rows) : ∃ b n c, v = .slice b n c := let ⟨_, _, b, c, hv, _⟩ := h; ⟨b, _, c, hv⟩
theorem RowIs.mv {b : Nat} {cs : List Value} {ty : TypeId} (h : RowIs w X b cs ty) (m : Mv X w Y w') : RowIs w' Y b cs ty := by
  obtain ⟨h1, h2⟩ := m b h.1 (Array.getElem?_eq_some_iff.1 h.2).1
  exact ⟨h1, by rw [h2]; exact h.2⟩
theorem MapIs.mv {κ : Type} {b : Nat} {kv : κ → Value} {es : List (Ent κ)} {c : Nat} (h : MapIs w X b kv es c) (m : Mv X w Y w') : MapIs w' Y b kv es c := by
  obtain ⟨h1, h2⟩ := m b h.1 (Array.getElem?_eq_some_iff.1 h.2.1).1
  exact ⟨h1, by rw [h2]; exact h.2.1, h.2.2⟩
theorem Own.mv {lo e k : Nat} {v : Value} {rows : List (List Value)} (h : Own w X lo e k v rows) (m : Mv X w Y w') : Own w' Y lo e k v rows := by
  obtain ⟨h1, h2, h3⟩ := h
  refine ⟨h1, ⟨h2.1, ?_⟩, fun g hg => (m g (h3 g hg) (h2.lt g hg).2).1⟩
  rcases h2.2 with h | ⟨g, cap, cur, rfl, hb, hg, hr⟩
  · exact .inl h
  · exact .inr ⟨g, cap, cur, rfl, hb, by rw [(m g (h3 g rfl) (Array.getElem?_eq_some_iff.1 hg).1).2]; exact hg, hr⟩
def Rws (w : World) (X : XS) (k : Nat) (v : Value) (rd : World → XS → List Value → α → Prop) (xs : List α) : Prop :=
  ∃ rows, Sl w X k v rows ∧ rows.length = xs.length ∧ ∀ (i : Nat) l x, rows[i]? = some l → xs[i]? = some x → rd w X l x
def Moves (rd : World → XS → List Value → α → Prop) : Prop := ∀ {X Y : XS} {w w' : World} {l : List Value} {x : α}, rd w X l x → Mv X w Y w' → rd w' Y l x
theorem Rws.mv {k : Nat} {v : Value} {rd : World → XS → List Value → α → Prop} {xs : List α} (h : Rws w X k v rd xs) (hm : Moves rd) (m : Mv X w Y w') : Rws w' Y k v rd xs := by
  obtain ⟨rows, h1, h2, h3⟩ := h
  exact ⟨rows, h1.mv m, h2, fun i l x hl hx => hm (h3 i l x hl hx) m⟩
theorem Rws.nil {rd : World → XS → List Value → α → Prop} (w : World) (X : XS) (k : Nat) : Rws w X k (.slice none 0 0) rd [] := ⟨[], Sl.nil w X k, rfl, by simp⟩
theorem Rws.one {k : Nat} {v : Value} {rd : World → XS → List Value → α → Prop} {xs : List α} (h : Rws w X k v rd xs) : one v = true := let ⟨_, h1, _⟩ := h; h1.one
theorem Rws.len {k : Nat} {v : Value} {rd : World → XS → List Value → α → Prop} {xs : List α} (h : Rws w X k v rd xs) : xs.length ≤ 2 ^ 63 - 1 := by
  obtain ⟨_, h1, h2, _⟩ := h; rw [← h2]; exact h1.2.1
theorem Mv.refl (X : XS) (w : World) : Mv X w X w := fun _ hk _ => ⟨hk, rfl⟩
theorem mv0 : Mv X w X w := Mv.refl _ _
theorem mv1 (h : Since X w Y w') : Mv X w Y w' := h.mv
theorem nq1 {l : List Value} : l.toArray.toList = l := rfl
theorem nq2 {i : Nat} {a : Value} {l : List Value} : (a :: l).take (i + 1) = a :: l.take i := rfl
theorem nq3 {i : Nat} {a : Value} {l : List Value} : (a :: l).drop (i + 1) = l.drop i := rfl
theorem nq4 {l : List Value} : l.take 0 = [] := rfl
theorem nq5 {l : List Value} : l.drop 0 = l := rfl
theorem nq6 {i : Nat} : ([] : List Value).take i = [] := List.take_nil
theorem nq7 {a : Value} {l : List Value} : (a :: l).length = l.length + 1 := rfl
theorem nq8 : ([] : List Value).length = 0 := rfl
theorem nq9 {a : Value} {l m : List Value} : a :: l ++ m = a :: (l ++ m) := rfl
theorem nq0 {l : List Value} : [] ++ l = l := rfl
theorem mv2 (h : Since X w Y w') (h' : Since Y w' Z w'') : Mv X w Z w'' := (h.trans h').mv
theorem Cells.take1 {b o fo : Nat} {v : Value} {l : List Value} (h : Cells w X b o l) (hl : l[fo]? = some v) : Cells w X b (o + fo) [v] := by
  have hp := h.part fo 1
  have : (l.drop fo).take 1 = [v] := by
    obtain ⟨hlt, rfl⟩ := List.getElem?_eq_some_iff.1 hl
    rw [List.drop_eq_getElem_cons hlt, List.take_succ_cons, List.take_zero]
  rw [this] at hp; exact hp
section
variable {w0 : World} {X0 : XS}
theorem m_fld {S f fo sz b o : Nat} {l l' : List Value} (h : Cells w0 X0 b o l) (hf : fieldInfo P S f = some (fo, sz)) (hz : (sz != 0) = true) (hl : (l.drop fo).take sz = l')
    (k : ∀ o', o' = o + fo → Cells w0 X0 b o' l' → N (ptr b o')) : rdV P X w (fld S f fo sz (ptr b o)) N :=
  rdV_fieldAt hf (by simpa using hz) (k _ rfl (hl ▸ h.part fo sz))
theorem m_fld1 {S f fo b o : Nat} {v : Value} {l : List Value} (h : Cells w0 X0 b o l) (hf : fieldInfo P S f = some (fo, 1)) (hl : l[fo]? = some v)
    (k : ∀ o', o' = o + fo → Cells w0 X0 b o' [v] → N (ptr b o')) : rdV P X w (fld S f fo 1 (ptr b o)) N :=
  rdV_fieldAt hf (by omega) (k _ rfl (h.take1 hl))
theorem m_ld1 {t : TypeId} {b o : Nat} {v : Value} {l : List Value} (h : Cells w0 X0 b o l) (m : Mv X0 w0 X w) (hi : tyInfo P t = some (false, 1)) (hl : l[0]? = some v) (k : N v) :
    rdV P X w (ld1 t (ptr b o)) N := r_ld1 (h.mv m) hi hl k
theorem m_ldA {t : TypeId} {b o n : Nat} {l : List Value} (h : Cells w0 X0 b o l) (m : Mv X0 w0 X w) (hi : tyInfo P t = some (true, n)) (hn : l.length = n) (k : N (.agg l.toArray)) :
    rdV P X w (ldA t n (ptr b o)) N := rdV_loadN (h.mv m) hi hn k
theorem m_lnS {enc : α → List Value} {t ty : TypeId} {k : Nat} {v : Value} {xs : List α} (h : Sl w0 X0 k v (xs.map enc))
    (ht : P.underlying t = some (.slice (P.elem t))) (n : N (.int .i64 xs.length)) : rdV P X w (lnS t ty v) N := by
  obtain ⟨_, _, base, cap, rfl, _⟩ := h
  exact rdV_pure (fun wa => run_len_slice wa t ty base _ cap ht) (by rw [List.length_map]; exact n)
theorem m_lnR {t ty : TypeId} {k : Nat} {v : Value} {rd : World → XS → List Value → α → Prop} {xs : List α} (h : Rws w0 X0 k v rd xs)
    (ht : P.underlying t = some (.slice (P.elem t))) (n : N (.int .i64 xs.length)) : rdV P X w (lnS t ty v) N := by
  obtain ⟨rows, ⟨_, _, base, cap, rfl, _⟩, h2, _⟩ := h
  exact rdV_pure (fun wa => run_len_slice wa t ty base _ cap ht) (by rw [h2]; exact n)
theorem rdV_index' {t : TypeId} {k : Nat} {v : Value} {rows : List (List Value)} {i : Nat} {z : Int} {r : List Value} (h : Sl w0 X0 k v rows) (hr : rows[i]? = some r) (hz : z = i)
    (ht : P.underlying t = some (.slice (P.elem t))) (hs : (P.info? (P.elem t)).map (·.size) = some k)
    (n : ∀ b o, Cells w0 X0 b o r → N (ptr b o)) : rdV P X w (Instr.indexAt t v (.int .i64 z)) N := by
  obtain ⟨h1, _, base, cap, rfl, hc, _⟩ := h
  have hi : i < rows.length := (List.getElem?_eq_some_iff.1 hr).1
  obtain ⟨b, o, rfl, hcs⟩ := hc (by intro e; subst e; simp at hi)
  have hp := hcs.part (i * k) k
  rw [flatten_part h1 hr] at hp
  refine rdV_pure (fun wa => ?_) (n b (o + i * k) hp)
  subst hz
  rw [run_indexAt_slice (h := ht), if_pos (by omega)]
  cases hq : P.info? (P.elem t) with
  | none => simp [hq] at hs
  | some inf =>
    have : inf.size = k := by simpa [hq] using hs
    simp [sizeOf, typeInfo, hq, this, addr_add]
theorem m_ixS {enc : α → List Value} {t : TypeId} {k : Nat} {v : Value} {xs : List α} {i : Nat} {z : Int} {x : α} (h : Sl w0 X0 k v (xs.map enc)) (hr : xs[i]? = some x)
    (hz : z = i) (ht : P.underlying t = some (.slice (P.elem t))) (hs : (P.info? (P.elem t)).map (·.size) = some k)
    (n : ∀ b o, Cells w0 X0 b o (enc x) → N (ptr b o)) : rdV P X w (ixS t k v (.int .i64 z)) N :=
  rdV_index' h (i := i) (by rw [List.getElem?_map, hr]; rfl) hz ht hs n
theorem m_ixR {t : TypeId} {k : Nat} {v : Value} {rd : World → XS → List Value → α → Prop} {xs : List α} {i : Nat} {z : Int} {x : α} (h : Rws w0 X0 k v rd xs) (hr : xs[i]? = some x)
    (hz : z = i) (ht : P.underlying t = some (.slice (P.elem t))) (hs : (P.info? (P.elem t)).map (·.size) = some k)
    (n : ∀ b o l, Cells w0 X0 b o l → rd w0 X0 l x → N (ptr b o)) : rdV P X w (ixS t k v (.int .i64 z)) N := by
  obtain ⟨rows, h1, h2, h3⟩ := h
  have hi : i < rows.length := by rw [h2]; exact (List.getElem?_eq_some_iff.1 hr).1
  have hl : rows[i]? = some rows[i] := List.getElem?_eq_getElem hi
  exact rdV_index' h1 hl hz ht hs fun b o hc => n b o _ hc (h3 i _ _ hl hr)
theorem m_snil {t : TypeId} {xo yo : Operand} {k : Nat} {v : Value} {rows : List (List Value)} (h : Sl w0 X0 k v rows) (ht : P.underlying t = some (.slice (P.elem t)))
    (hT : v = .slice none 0 0 → rows = [] → N (.bool true)) (hF : N (.bool false)) : rdV P X w (binS .eql t xo yo v (.slice none 0 0)) N := by
  rcases h.src with ⟨rfl, hr⟩ | ⟨a, cap, rfl, _⟩
  · exact rdV_snil ht (hT rfl hr)
  · exact rdV_snil ht hF
end
theorem at_drop {xs : List α} {i : Nat} (h : i < xs.length) : ∃ x, xs[i]? = some x ∧ xs.drop i = x :: xs.drop (i + 1) :=
  ⟨xs[i], List.getElem?_eq_getElem h, List.drop_eq_getElem_cons h⟩
theorem at_or (xs : List α) (i : Nat) : (i < xs.length ∧ ∃ x, xs[i]? = some x ∧ xs.drop i = x :: xs.drop (i + 1)) ∨ (xs.length ≤ i ∧ xs.drop i = []) := by
  rcases Nat.lt_or_ge i xs.length with h | h
  · exact .inl ⟨h, at_drop h⟩
  · exact .inr ⟨h, List.drop_of_length_le h⟩
theorem m_sub {l l' : List Value} {o n : Nat} {M : Value → Prop} (hl : (l.drop o).take n = l') (k : M (.agg l'.toArray)) : un (subOf (.agg l.toArray) o n) M :=
  un_sub (hl ▸ k)
theorem m_set {l l' cs : List Value} {o : Nat} {M : Value → Prop} (hl : setL l o cs = l') (k : M (.agg l'.toArray)) :
    un (Value.agg (List.toArray (setL l o cs))) M := by subst hl; exact k
theorem all_one_cons {v : Value} {l : List Value} (h : one v = true) (k : l.all one = true) : (v :: l).all one = true := by simp [h, k]
theorem all_one_nil : List.all ([] : List Value) one = true := rfl
theorem m_chkc {l : List Value} {A : Prop} (h : l.all one = true) (k : A) : chk (List.all (Array.toList (Value.cells (.agg l.toArray))) one) A := chk_T h k
theorem m_chkl {l : List Value} {A : Prop} (h : l.all one = true) (k : A) : chk (List.all l one) A := chk_T h k
theorem m_ext {l : List Value} {i : Nat} {v : Value} (hi : l[i]? = some v) (h : N v) : rdV P X w (Instr.extract (.tuple l.toArray) i) N := rdV_extract (by simpa using hi) h
theorem r_ct0B {f : FuncId} {args : Array Value} {b : Bool} {N : Value → World → XS → Prop}
    (h : Ct P f args w X nX fun v _ _ => v = .bool b) (hf : enters P f = true) (hX : ∀ k, X k → k < w.heap.size)
    (hT : b = true → ∀ w' X', Since X w X' w' → N (.bool true) w' X') (hF : b = false → ∀ w' X', Since X w X' w' → N (.bool false) w' X') : eC P R X w m f args N := by
  refine r_ct0 h hf hX fun v wa w' X' hv _ _ hs => ?_
  subst hv
  cases b
  · exact hF rfl w' X' hs
  · exact hT rfl w' X' hs
theorem r_ct0V {f : FuncId} {args : Array Value} {u : Value} {N : Value → World → XS → Prop}
    (h : Ct P f args w X nX fun v _ _ => v = u) (hf : enters P f = true) (hX : ∀ k, X k → k < w.heap.size)
    (k : ∀ w' X', Since X w X' w' → N u w' X') : eC P R X w m f args N := by
  refine r_ct0 h hf hX fun v wa w' X' hv _ _ hs => ?_
  subst hv; exact k w' X' hs
theorem r_ct0I {f : FuncId} {args : Array Value} {N : Value → World → XS → Prop}
    (h : Ct P f args w X nX fun v _ _ => ∃ n : Int, v = .int .i64 n) (hf : enters P f = true) (hX : ∀ k, X k → k < w.heap.size)
    (k : ∀ (n : Int) w' X', Since X w X' w' → N (.int .i64 n) w' X') : eC P R X w m f args N := by
  refine r_ct0 h hf hX fun v wa w' X' hv _ _ hs => ?_
  obtain ⟨n, rfl⟩ := hv; exact k n w' X' hs
theorem r_min {t ty : TypeId} {a b : Int} (h : N (.int .i64 (min a b))) : rdV P X w (Builtin.min_ #[t, t] ty #[.int .i64 a, .int .i64 b]) N :=
  rdV_pure (fun wa => by
    simp only [Builtin.min_, List.foldlM]
    by_cases hc : b < a
    · have : min a b = b := by omega
      simp [Builtin.min2, hc, this]
    · have : min a b = a := by omega
      simp [Builtin.min2, hc, this]) h
theorem r_cvI {src dst : TypeId} {k q : IntKind} {n : Int} (hs : (P.underlying src).isSome = true) (hd : P.underlying dst = some (.int k))
    (h : N (.int k (k.wrap n))) : rdV P X w (cvI k src dst (.int q n)) N := rdV_pure (fun wa => by
      have e : P.intKind dst = k := by simp [Program.intKind, hd]
      have := run_convert_int (P := P) wa src dst q n hs (by rw [e]; exact hd)
      rw [e] at this; exact this) h
theorem r_cvF {src dst : TypeId} {q : IntKind} {n : Int} (hs : (P.underlying src).isSome = true) (hd : P.underlying dst = some (.float .f64))
    (h : N (.float .f64 (floatOfInt .f64 n))) : rdV P X w (cvF src dst (.int q n)) N := rdV_pure (fun wa => run_convert_int_float wa src dst q .f64 n hs hd) h
theorem r_ixA {t e : TypeId} {n : Nat} {l : List Value} {z : Int} {i : Nat} {v : Value} (ht : P.underlying t = some (.array n e)) (he : tyInfo P e = some (false, 1)) (hz : z = i) (hn : i < n) (hl : l[i]? = some v)
    (k : N v) : rdV P X w (ixA t n e (.agg l.toArray) (.int .i64 z)) N := by
  subst hz
  unfold tyInfo at he
  split at he
  · rename_i d q hu hi'
    simp only [Option.some.injEq, Prod.mk.injEq] at he
    refine rdV_pure (v := v) (fun wa => ?_) k
    have hagg : (isAgg e).run P wa = .ok false wa := by cases d <;> simp_all [isAgg, run_underlying hu]
    simp [ixA, Instr.index, asIntOf, run_underlying ht, hn, sizeOf, typeInfo, hi', he.2, part, hagg, hl]
  · cases he
theorem r_fop {op : BinOp} {t : TypeId} {x y r : Nat} (h : floatBits op .f64 x y = some r) (k : N (.float .f64 r)) : rdV P X w (binOp op t (.float .f64 x) (.float .f64 y)) N :=
  rdV_pure (fun wa => run_float_arith wa op t .f64 x y r h) k
theorem size_list (s : ByteArray) : s.size = s.data.toList.length := by rw [Array.length_toList]; rfl
theorem r_ixT {t : TypeId} {s : ByteArray} {z : Int} {i : Nat} {b : UInt8} (hb : s.data.toList[i]? = some b) (hz : z = i) (ht : P.underlying t = some .string) (k : N (.int .u8 b.toNat)) :
    rdV P X w (Instr.index t (.string s) (.int .i64 z)) N := by
  subst hz
  have hi : i < s.data.toList.length := (List.getElem?_eq_some_iff.1 hb).1
  have hi' : i < s.size := by rw [size_list]; exact hi
  refine rdV_pure (v := .int .u8 b.toNat) (fun wa => ?_) k
  rw [run_index_string wa t s .i64 i ht, dif_pos (by omega)]
  have : s[i] = b := by
    have h2 : s.data.toList[i] = b := (List.getElem?_eq_some_iff.1 hb).2
    rw [← h2]; rfl
  simp [this]
theorem read_nearest (f : Ieee.Format) (s : Bool) (m : Nat) (p : Int) : (f.read (f.nearest s m p)).isNaN = false := by
  have hle : ∃ r, f.nearest s m p = f.word s r ∧ r ≤ f.infRung := by
    unfold Ieee.Format.nearest
    split
    · exact ⟨0, rfl, Nat.zero_le _⟩
    · exact ⟨_, rfl, Nat.min_le_right _ _⟩
  obtain ⟨r, hr, hle⟩ := hle
  have hlt := f.infRung_lt
  have hm : f.word s r % f.signWeight = r := by
    unfold Ieee.Format.word
    split
    · rw [Nat.add_mod_left, Nat.mod_eq_of_lt (by omega)]
    · rw [Nat.mod_eq_of_lt (by omega)]
  rw [hr]
  unfold Ieee.Format.read
  simp only [hm]
  split
  · rfl
  · split
    · rfl
    · split
      · rfl
      · omega
def chain (p : α → Bool) (r : α → α → Bool) : Option α → List α → Bool
  | _, [] => true
  | none, x :: l => p x && chain p r (some x) l
  | some y, x :: l => p x && r y x && chain p r (some x) l
def prevOf (xs : List α) (i : Nat) : Option α := if i = 0 then none else xs[i - 1]?
theorem prevOf_succ {xs : List α} {i : Nat} {x : α} (h : xs[i]? = some x) : prevOf xs (i + 1) = some x := by simp [prevOf, h]
theorem at_prev {xs : List α} {i : Nat} (h : i < xs.length) : (i = 0 ∧ prevOf xs i = none) ∨ (0 < i ∧ ∃ y, xs[i - 1]? = some y ∧ prevOf xs i = some y) := by
  by_cases h0 : i = 0
  · exact .inl ⟨h0, by simp [prevOf, h0]⟩
  · have : xs[i - 1]? = some xs[i - 1] := List.getElem?_eq_getElem (by omega)
    exact .inr ⟨by omega, _, this, by simp [prevOf, h0, this]⟩
end Go.Eng
namespace Go.Eng
variable {P : Program} {R : Ending → World → Prop} {X : XS} {w : World} {m : Bool}
theorem foldl_set (l : List Value) : ∀ (n : Nat) (cs : Array Value), n + l.length ≤ cs.size →
    ((l.zipIdx n).foldl (fun (cs : Array Value) (p : Value × Nat) => cs.setIfInBounds p.2 p.1) cs).toList = cs.toList.take n ++ l ++ cs.toList.drop (n + l.length) := by
  induction l with
  | nil => intro n cs h; simp
  | cons x r ih =>
    intro n cs h
    simp only [List.length_cons] at h
    simp only [List.zipIdx_cons, List.foldl_cons]
    rw [ih (n + 1) _ (by simp; omega)]
    have hn : n < cs.toList.length := by simp; omega
    simp only [Array.toList_setIfInBounds, List.length_cons]
    rw [List.take_set, List.drop_set_of_lt (by omega)]
    have : (cs.toList.take (n + 1)).set n x = cs.toList.take n ++ [x] := by
      rw [List.take_add_one, List.getElem?_eq_getElem hn]
      simp only [Option.toList_some]
      rw [List.set_append_right _ _ (by simp; omega)]
      have hm : (cs.toList.take n).length = n := by rw [List.length_take]; omega
      rw [hm, Nat.sub_self, List.set_cons_zero]
    rw [this]
    simp only [List.append_assoc, List.cons_append, List.nil_append]
    rw [show n + 1 + r.length = n + (r.length + 1) by omega]
theorem fill_one {k : Nat} {cs : Array Value} {x : Value} (hx : x.cells.size = k) (hc : cs.size = k) :
    Instr.fill (fun i => some (i * k, k)) cs [(0, x)] = some x.cells := by
  unfold Instr.fill
  simp only [Nat.zero_mul, Nat.zero_add, hx, ne_eq, not_true_eq_false, decide_false, hc, Nat.lt_irrefl, gt_iff_lt, Bool.or_self, Bool.false_eq_true, if_false]
  unfold Instr.fill
  simp only [Option.some.injEq]
  apply Array.ext'
  have := foldl_set x.cells.toList 0 cs (by simp; omega)
  rw [← Array.toList_zipIdx, Array.foldl_toList] at this
  simp only [Nat.zero_add, List.take_zero, List.nil_append, Array.length_toList] at this
  rw [List.drop_of_length_le (by simp; omega), List.append_nil] at this
  exact this
def blk (v : Value) : XS := fun g => v.ownBlock = some g
def elemOk (P : Program) (t e k bytes : Nat) : Bool := match P.underlying t, P.info? e with
  | some (.slice e'), some i => e' == e && i.size == k && i.bytes == bytes && (match i.zero with | some z => z.cells.size == k | none => false) && decide (0 < k) && decide (k ≤ 2 ^ 20)
  | _, _ => false
theorem elemOk_iff {t e k bytes : Nat} (h : elemOk P t e k bytes = true) : P.underlying t = some (.slice e) ∧ 0 < k ∧ k ≤ 2 ^ 20 ∧
    ∃ z : Value, (P.info? e).bind (fun i => i.zero.map fun z => (i.size, i.bytes, z)) = some (k, bytes, z) ∧ (P.info? e).bind (fun i => i.zero.map fun z => (i.size, z)) = some (k, z) ∧ z.cells.size = k := by
  unfold elemOk at h
  split at h
  · rename_i e' i hu hi
    simp only [Bool.and_eq_true, beq_iff_eq, decide_eq_true_eq] at h
    obtain ⟨⟨⟨⟨⟨rfl, h2⟩, h3⟩, h4⟩, h5⟩, h6⟩ := h
    cases hz : i.zero with
    | none => simp [hz] at h4
    | some z =>
      simp only [hz, beq_iff_eq] at h4
      exact ⟨hu, h5, h6, z, by simp [hi, hz, h2, h3], by simp [hi, hz, h2], h4⟩
  · cases h
section
variable {w0 : World} {X0 : XS} {t ty e k bytes : Nat} {v x s : Value} {rows rows2 : List (List Value)} {row : List Value} {N : Value → World → XS → Prop}
theorem m_app1 (own : Own w X w0.heap.size e k v rows) (hs : Since X0 w0 X w) (h0 : ∀ k, X0 k → k < w0.heap.size) (he : elemOk P t e k bytes = true) (hx : x.cells.toList = row) (hk : (row.length == k) = true)
    (h1 : row.all one = true) (hb : (rows.length + 1) * bytes ≤ 140737488355328) (hl : rows.length + 1 ≤ 2 ^ 63 - 1)
    (n : ∀ v' w' X', Since X0 w0 X' w' → Own w' X' w0.heap.size e k v' (rows ++ [row]) → Chg (blk v) X w X' w' → (v'.ownBlock = v.ownBlock ∨ ∃ g, v'.ownBlock = some g ∧ w.heap.size ≤ g) → N v' w' X') :
    eV P R X w m (bsS t e k 1 #[(0, x)]) fun s w1 X1 => eV P R X1 w1 true (apS t e k bytes ty v s) N := by
  obtain ⟨hu, hk0, hk1, z, hi, hz, hzs⟩ := elemOk_iff he
  have hk' : row.length = k := by simpa using hk
  have hxs : x.cells.size = k := by rw [← hk', ← hx, Array.length_toList]
  refine eV_slice (rows := [row]) x.cells z hs.has hu hz (by omega) (by omega) ?_ (by simpa using hk') rfl (by simpa using hx) fun s w1 X1 hs1 hso => ?_
  · simp only [Nat.one_mul]
    exact fill_one hxs (by simp)
  · have hlo : w0.heap.size ≤ w1.heap.size := Nat.le_trans hs.kp.size hs1.kp.size
    refine eV_append (rows2 := [row]) z hu hi hzs hk0 hs1.has hlo (own.since hs1) hso.sl (by simpa using h1) (by simpa using hb) (by simpa using hl) fun v2 w2 X2 hg ho hat => ?_
    have hd : ∀ g, v.ownBlock = some g → w0.heap.size ≤ g := fun g hg => (own.ge hg).1
    refine n v2 w2 X2 ((hs.trans hs1).grown hg fun g hg0 he => ?_) ho ?_ ?_
    · have := hd g he.symm; have := h0 g hg0; omega
    · exact (Chg.of_since hs1 (blk v)).trans (hg.chg.mono fun k _ hk => hk.symm)
    · rcases hat with h | ⟨g, h, hge⟩
      · exact .inl h
      · exact .inr ⟨g, h, Nat.le_trans hs1.kp.size hge⟩
theorem m_app1a {l : List Value} (own : Own w X w0.heap.size e k v rows) (hs : Since X0 w0 X w) (h0 : ∀ k, X0 k → k < w0.heap.size) (he : elemOk P t e k bytes = true) (hk : (l.length == k) = true)
    (h1 : l.all one = true) (hb : (rows.length + 1) * bytes ≤ 140737488355328) (hl : rows.length + 1 ≤ 2 ^ 63 - 1)
    (n : ∀ v' w' X', Since X0 w0 X' w' → Own w' X' w0.heap.size e k v' (rows ++ [l]) → Chg (blk v) X w X' w' → (v'.ownBlock = v.ownBlock ∨ ∃ g, v'.ownBlock = some g ∧ w.heap.size ≤ g) → N v' w' X') :
    eV P R X w m (bsS t e k 1 #[(0, .agg l.toArray)]) fun s w1 X1 => eV P R X1 w1 true (apS t e k bytes ty v s) N := m_app1 own hs h0 he rfl hk h1 hb hl n
theorem m_app1s (own : Own w X w0.heap.size e k v rows) (hs : Since X0 w0 X w) (h0 : ∀ k, X0 k → k < w0.heap.size) (he : elemOk P t e k bytes = true) (hk : (k == 1) = true)
    (ho : one x = true) (hb : (rows.length + 1) * bytes ≤ 140737488355328) (hl : rows.length + 1 ≤ 2 ^ 63 - 1)
    (n : ∀ v' w' X', Since X0 w0 X' w' → Own w' X' w0.heap.size e k v' (rows ++ [[x]]) → Chg (blk v) X w X' w' → (v'.ownBlock = v.ownBlock ∨ ∃ g, v'.ownBlock = some g ∧ w.heap.size ≤ g) → N v' w' X') :
    eV P R X w m (bsS t e k 1 #[(0, x)]) fun s w1 X1 => eV P R X1 w1 true (apS t e k bytes ty v s) N := by
  refine m_app1 (row := [x]) own hs h0 he ?_ (by simpa using (beq_iff_eq.1 hk).symm) (by simpa using ho) hb hl n
  cases x <;> first | rfl | cases ho
theorem m_appS (own : Own w X w0.heap.size e k v rows) (hs : Since X0 w0 X w) (h0 : ∀ k, X0 k → k < w0.heap.size) (he : elemOk P t e k bytes = true) (src : Sl w X k s rows2) (h1 : ∀ r ∈ rows2, ∀ u ∈ r, one u = true)
    (hb : (rows.length + rows2.length) * bytes ≤ 140737488355328) (hl : rows.length + rows2.length ≤ 2 ^ 63 - 1)
    (n : ∀ v' w' X', Since X0 w0 X' w' → Own w' X' w0.heap.size e k v' (rows ++ rows2) → Chg (blk v) X w X' w' → (v'.ownBlock = v.ownBlock ∨ ∃ g, v'.ownBlock = some g ∧ w.heap.size ≤ g) → N v' w' X') :
    eV P R X w true (apS t e k bytes ty v s) N := by
  obtain ⟨hu, hk0, hk1, z, hi, hz, hzs⟩ := elemOk_iff he
  refine eV_append (rows2 := rows2) z hu hi hzs hk0 hs.has hs.kp.size own src h1 hb hl fun v2 w2 X2 hg ho hat => ?_
  have hd : ∀ g, v.ownBlock = some g → w0.heap.size ≤ g := fun g hg => (own.ge hg).1
  refine n v2 w2 X2 (hs.grown hg fun g hg0 he => ?_) ho (hg.chg.mono fun k _ hk => hk.symm) hat
  have := hd g he.symm; have := h0 g hg0; omega
theorem m_bs0 (hX : ∀ k, X k → k < w.heap.size) (hu : P.underlying t = some (.slice e)) (hz : (P.info? e).map (·.size) = some k)
    (n : ∀ v w' X', Since X w X' w' → Own w' X' w.heap.size e k v [] → N v w' X') : eV P R X w m (bsS t e k 0 #[]) N := eV_slice0 hX hu hz n
end
theorem m_bsN {t e k bytes len : Nat} {parts : Array (Nat × Value)} {rows : List (List Value)} {N : Value → World → XS → Prop} (cells : Array Value) (z : Value) (hX : ∀ k, X k → k < w.heap.size) (he : elemOk P t e k bytes = true)
    (hz : (P.info? e).bind (·.zero) = some z) (hpos : 0 < len * k) (hsmall : len * k ≤ 2 ^ 24)
    (h : Instr.fill (fun i => some (i * k, k)) ((Array.range (len * k)).map (z.cells[· % z.cells.size]!)) parts.toList = some cells)
    (hrows : ∀ r ∈ rows, r.length = k) (hlen : rows.length = len) (hc : cells.toList = rows.flatten)
    (n : ∀ v w' X', Since X w X' w' → Own w' X' w.heap.size e k v rows → N v w' X') : eV P R X w m (bsS t e k len parts) N := by
  obtain ⟨hu, hk0, hk1, z', hi, hz', hzs⟩ := elemOk_iff he
  have : z' = z := by
    cases hq : P.info? e with
    | none => simp [hq] at hz
    | some ie => cases hzz : ie.zero <;> simp_all
  subst this
  exact eV_slice cells z' hX hu hz' hpos hsmall h hrows hlen hc n
end Go.Eng
