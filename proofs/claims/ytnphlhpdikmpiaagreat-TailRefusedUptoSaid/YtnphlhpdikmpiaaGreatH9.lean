/-
  racelaw18.TailRefused returns true, whatever it is called with, where what it reads is of bulk at most 1048576; the input reads as it did.
-/
import Derived.Test.YtnphlhpdikmpiaaGreatChecked
import Derived.OpenShut
import Derived.JoinedCond
import Derived.Test.YtnphlhpdikmpiaaGreatH8
namespace Go.Proofs.YtnphlhpdikmpiaaGreat
open Go.Eng Go.ChangeShapes Go.WideShapes Go.ChangeAt Go.RowKit
set_option maxRecDepth 100000
set_option maxHeartbeats 1000000
section
variable {P : Program}
def canRead (P : Program) (ts : List TypeId) : Bool := ts.all fun t => P.readableRec t && decide (t < P.types.size)
theorem args_stay (hl : laidOutB P = true) {H : Type} {enc : TypeId × Value → H} {W W' : World} (hb : Below W.heap.size W W') : ∀ {ts : List TypeId} {vs : List Value} {ds : List (DataW H)} {ps : List MemPlace}, canRead P ts = true → (∀ x ∈ ps, x.block < W.heap.size) →
    DataW.TrodAll enc P W 0 (fun _ => true) true ts vs ds ps → DataW.TrodAll enc P W' 0 (fun b => decide (b < W.heap.size)) true ts vs ds ps
  | [], [], [], _, _, _, h => h
  | t :: ts, v :: vs, d :: ds, ps, hr, hlt, ⟨p, q, h1, h2, hps⟩ => by
    unfold canRead at hr
    simp only [List.all_cons, Bool.and_eq_true, decide_eq_true_eq] at hr
    subst hps
    exact ⟨p, q, Below.trod hl hr.1.1 hr.1.2 h1 hb fun x hx => hlt x (List.mem_append_left _ hx), args_stay hl hb hr.2 (fun x hx => hlt x (List.mem_append_right _ hx)) h2, rfl⟩
  | [], [], _ :: _, _, _, _, h => h.elim
  | [], _ :: _, _, _, _, _, h => h.elim
  | _ :: _, [], _, _, _, _, h => h.elim
  | _ :: _, _ :: _, [], _, _, _, h => h.elim
theorem law_post (hl : laidOutB P = true) {tb : TypeId} (hub : P.underlying tb = some .bool) {H : Type} {enc : TypeId × Value → H} {f : Func} {s : ChangeSpec} {W W' : World} {args : Array Value} {ds : List (DataW H)} {before : List MemPlace} (hv : s.vars = []) (hrt : f.resultTypes = #[tb]) (hc : canRead P f.params.toList = true)
    (hs : (s.fn H (ds ++ [])).results = [.lit (.bool true)] ∧ (s.fn H (ds ++ [])).args = ds ∧ (s.fn H (ds ++ [])).vars = [])
    (hW : DataW.Whole enc P f.params.toList s.vars false W args.toList ds [] before) (hA : DataW.TrodAll enc P W 0 (fun _ => true) true f.params.toList args.toList ds before) (hx : Ext W W') :
    s.post enc P f false true false false W args (.bool true) W' := by
  have hb := hx.below
  refine ⟨ds, [], before, [], before, [], hW, ?_, ?_, ?_, Below.frame hb _, fun h => by cases h⟩
  · rw [hrt, hs.1]
    exact trodAll_cons_mk (shut_bool hub _) trodAll_mk0
  · rw [hs.2.1]
    exact args_stay hl hb hc (fun x hx => hW.lt x hx) hA
  · rw [hs.2.2, hv]; rfl
end
theorem own_knob : ownKnob Tryz.prog.godebug = none := by kernel_rfl
theorem laid_out : laidOutB Tryz.prog = true := by kernel_rfl
theorem bound {H : Type} {l : List (DataW H)} (hk : Rows.uptoSmall H l = true) : Rows.uptoBulkAll l ≤ 1048576 := of_decide_eq_true hk
end Go.Proofs.YtnphlhpdikmpiaaGreat
namespace Go.Proofs.YtnphlhpdikmpiaaGreat
open Go.Eng Go.ChangeShapes Go.WideShapes Go.ChangeAt Go.RowKit
set_option maxRecDepth 100000
set_option maxHeartbeats 1000000
theorem rt_LRec : RdT 22 (rdL 29 Rec.rd) := rd_slice (by kernel_rfl) (by kernel_rfl) (by decide) rt_Rec
theorem sum_part {α : Type} [Wt α] {f : α → Nat} {B : Nat} {l : List α} (h : (l.map Wt.wt).sum ≤ B) (hf : ∀ x, f x ≤ Wt.wt x) : (l.map f).sum ≤ B := by
  refine Nat.le_trans ?_ h
  clear h
  induction l with
  | nil => simp
  | cons x l ih => have := hf x; simp; omega
theorem key_le {s : BA} {B : Nat} (h : Wt.wt s ≤ B) : s.size ≤ B := by
  have : s.size + 1 ≤ B := h
  omega
theorem Pend.wt_ok {p : Pend} {B : Nat} (h : Wt.wt p ≤ B) (hB : B ≤ 2 ^ 40) : p.ok := by
  have h' : Wt.wt p.txn + Wt.wt p.stamp + ((p.reads.map Wt.wt).sum + 1) + ((p.writes.map Wt.wt).sum + 1) + 1 ≤ B := h
  have h1 := wt_len p.reads
  have h2 := wt_len p.writes
  refine ⟨by omega, by omega, fun k hk => ?_, fun x hx => ?_⟩
  · have := wt_mem hk
    exact Nat.le_trans (key_le this) (by omega)
  · have := wt_mem hx
    have h4 : Wt.wt x.key + Wt.wt x.val + 1 ≤ (p.writes.map Wt.wt).sum := this
    exact Nat.le_trans (key_le (Nat.le_refl _)) (by omega)
theorem State.wt_small {s : State} {B : Nat} (h : Wt.wt s ≤ B) (hB : B ≤ 2 ^ 40) : s.small := by
  have h' : Wt.wt s.range + Wt.wt s.floor + Wt.wt s.closed + ((s.hists.map Wt.wt).sum + 1) + ((s.pend.map Wt.wt).sum + 1) + 1 ≤ B := h
  have hp : ∀ p ∈ s.pend, p.ok := fun p hp => Pend.wt_ok (B := B) (Nat.le_trans (wt_mem hp) (by omega)) hB
  have hh : ∀ x ∈ s.hists, Wt.wt x.key + ((x.vers.map Wt.wt).sum + 1) + 1 ≤ B := fun x hx => by
    have := wt_mem hx
    have h4 : Wt.wt x.key + ((x.vers.map Wt.wt).sum + 1) + 1 ≤ (s.hists.map Wt.wt).sum := this
    omega
  refine ⟨fun x hx => ?_, fun p hq => ⟨(hp p hq).r, (hp p hq).w⟩, fun x hx => ?_, fun p hq => ⟨(hp p hq).rk, (hp p hq).wk⟩⟩
  · have := hh x hx
    have := wt_len x.vers
    omega
  · have := hh x hx
    exact Nat.le_trans (key_le (Nat.le_refl _)) (by omega)
theorem Rec.wt_small {r : Rec} {B : Nat} (h : Wt.wt r ≤ B) (hB : B ≤ 2 ^ 40) : r.small := by
  have h' : Wt.wt r.kind + Wt.wt r.txn + Wt.wt r.stamp + Wt.wt r.prev + Wt.wt r.commit + Wt.wt r.n + Wt.wt r.point + ((r.reads.map Wt.wt).sum + 1) + ((r.writes.map Wt.wt).sum + 1) + Wt.wt r.parts + Wt.wt r.pairs + Wt.wt r.state + 1 ≤ B := h
  have h1 := wt_len r.reads
  have h2 := wt_len r.writes
  refine ⟨by omega, by omega, fun k hk => ?_, fun x hx => ?_, State.wt_small (B := B) (by omega) hB⟩
  · exact Nat.le_trans (key_le (wt_mem hk)) (by omega)
  · have := wt_mem hx
    have h4 : Wt.wt x.key + Wt.wt x.val + 1 ≤ (r.writes.map Wt.wt).sum := this
    exact Nat.le_trans (key_le (Nat.le_refl _)) (by omega)
theorem loadOf_le (r : Rec) : loadOf r ≤ Wt.wt r := by
  have h' : Wt.wt r.kind + Wt.wt r.txn + Wt.wt r.stamp + Wt.wt r.prev + Wt.wt r.commit + Wt.wt r.n + Wt.wt r.point + Wt.wt r.reads + Wt.wt r.writes + Wt.wt r.parts + Wt.wt r.pairs +
      (Wt.wt r.state.range + Wt.wt r.state.floor + Wt.wt r.state.closed + Wt.wt r.state.hists + ((r.state.pend.map Wt.wt).sum + 1) + 1) + 1 = Wt.wt r := rfl
  have := wt_len r.state.pend
  unfold loadOf; omega
namespace tailRefused
theorem contract (H : Type) (enc : TypeId × Value → H) (W : World) (base : Nat) (args : Array Value) (ds gs : List (DataW H)) (before : List MemPlace)
    (hval : ∀ (j : Nat) t v, Tryz.f4.params[j]? = some t → args[j]? = some v → Value.okWide Tryz.prog W .any base t v)
    (hW : DataW.Whole enc Tryz.prog Tryz.f4.params.toList Rows.tailRefusedSpec.vars false W args.toList ds gs before) (hk : Rows.uptoSmall H (ds ++ gs) = true) :
    Calls Tryz.prog 4 args W fun e W' => ∃ v, e = .returned v ∧ Rows.tailRefusedSpec.post enc Tryz.prog Tryz.f4 false true false false W args v W' := by
  have hW' := hW
  obtain ⟨p, q, hA0, hV, rfl, hfz, hnd⟩ := hW
  have hA : DataW.TrodAll enc Tryz.prog W 0 (fun _ => true) true Tryz.f4.params.toList args.toList ds p := hA0
  rw [Tryz.params4] at hA hval
  obtain ⟨v0, vs0, d0, ds0, p0, q0, hargs, rfl, rfl, h0, r0⟩ := trodAll_cons hA
  obtain ⟨v1, vs1, d1, ds1, p1, q1, rfl, rfl, rfl, h1, r1⟩ := trodAll_cons r0
  obtain ⟨v2, vs2, d2, ds2, p2, q2, rfl, rfl, rfl, h2, r2⟩ := trodAll_cons r1
  obtain ⟨rfl, rfl, rfl⟩ := trodAll_nil r2
  obtain rfl : args = #[v0, v1, v2] := by cases args; simp_all
  obtain ⟨rfl, rfl⟩ := trodVars_none hV
  obtain ⟨a0, rfl, rfl, rfl, w0⟩ := open_int Tryz.underlying3 (hval 0 3 v0 rfl rfl) h0
  obtain ⟨b1, n1, c1, rfl⟩ := okWide_slice Tryz.underlying22 (hval 1 22 v1 rfl rfl)
  obtain ⟨b2, n2, c2, rfl⟩ := okWide_slice Tryz.underlying23 (hval 2 23 v2 rfl rfl)
  obtain ⟨f1, hf1⟩ := h1
  obtain ⟨f2, hf2⟩ := h2
  obtain ⟨x1, ⟨u1, hu1, r1⟩, wt1⟩ := rt_LRec H enc W f1 _ _ hf1
  obtain ⟨x2, ⟨u2, hu2, r2⟩, wt2⟩ := rt_Li H enc W f2 _ _ hf2
  obtain rfl : u1 = .slice b1 n1 c1 := by simpa [Value.cells] using hu1.symm
  obtain rfl : u2 = .slice b2 n2 c2 := by simpa [Value.cells] using hu2.symm
  have hb := bound hk
  simp only [List.append_nil, Rows.uptoBulkAll] at hb hW'
  have hw1 : (x1.map Wt.wt).sum + 1 ≤ Rows.uptoBulk d1 := wt1
  have hl1 := wt_len x1
  refine (d_racelaw18_TailRefused (X := old W) (id := a0) r1 r2.to_sl (fun r hr => Rec.wt_small (B := 2 ^ 40) (Nat.le_trans (wt_mem hr) (by omega)) (Nat.le_refl _)) (sum_part (by omega) loadOf_le) (by omega) W (Kp.refl _ _)).mono fun e W' ⟨v, he, hfr, hq⟩ => ?_
  subst he
  subst hq
  exact ⟨_, rfl, law_post laid_out Tryz.underlying4 rfl rfl (by kernel_rfl) ⟨rfl, rfl, rfl⟩ hW' (by rw [List.append_nil] at *; exact hA0) hfr⟩
theorem lifted (os : Os) (started : os.Started) (H : Type) (enc : TypeId × Value → H) (F : Stop.Interp) :
    ReturnsInHanded {} Tryz.checked os 4 .any ((Rows.OpenSpec.upto Rows.tailRefusedSpec).pre6 enc Tryz.prog Tryz.f4 Rows.tailRefusedUptoRow.domain false) (((Rows.OpenSpec.upto Rows.tailRefusedSpec).at F).post enc Tryz.prog Tryz.f4 false true false false) := by
  refine returnsInHanded_of_cond (C := Tryz.checked) (s := Rows.OpenSpec.upto Rows.tailRefusedSpec) (k := Rows.uptoSmall) rfl own_knob started (by kernel_rfl) Tryz.func4
    (OpenSpec.witness (enc := enc) (C := Tryz.checked) (s := Rows.OpenSpec.upto Rows.tailRefusedSpec) (k := Rows.uptoSmall) rfl false ⟨#[], #[.int .i64 0, .slice none 0 0, .slice none 0 0], []⟩ 8 (by kernel_rfl) (by kernel_rfl) (by kernel_rfl)
      (x := ([.lit (.int .i64 0), .nil, .nil], [], [])) (by kernel_rfl) rfl (by kernel_rfl)) ?_
  intro W base args ds gs before hval hW _ hk _
  exact contract H enc W base args ds gs before hval hW hk
theorem proved : Rows.TailRefusedUptoSaid :=
  OpenClaim.holds_of_cond 4 Tryz.f4 rfl rfl rfl rfl rfl rfl rfl ⟨rfl, rfl, rfl, rfl, rfl⟩ rfl rfl rfl rfl rfl (by kernel_rfl) Tryz.func4 (by kernel_rfl)
    (of_decide_eq_true (by kernel_rfl)) (by unfold Func.isWrapper; first | (rw [if_pos (by decide +kernel)]; kernel_rfl) | (rw [if_neg (by decide +kernel)]; exact ⟨rfl, rfl⟩))
    (fun os started H enc _ F => lifted os started H enc F)
end tailRefused
end Go.Proofs.YtnphlhpdikmpiaaGreat
