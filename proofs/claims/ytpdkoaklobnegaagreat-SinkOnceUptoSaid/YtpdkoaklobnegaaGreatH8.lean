/-
  racelaw22.SinkOnce returns true, whatever it is called with, where what it reads is of bulk at most 1048576; the input reads as it did.
-/
import Derived.Test.YtpdkoaklobnegaaGreatChecked
import Derived.OpenShut
import Derived.JoinedCond
import Derived.Test.YtpdkoaklobnegaaGreatH7
namespace Go.Proofs.YtpdkoaklobnegaaGreat
open Go.Eng Go.ChangeShapes Go.WideShapes Go.ChangeAt Go.RowKit
set_option maxRecDepth 100000
set_option maxHeartbeats 1000000
section
variable {P : Program}
def canRead (P : Program) (ts : List TypeId) : Bool := ts.all fun t => P.readableRec t && decide (t < P.types.size)
theorem args_stay (hl : laidOutB P = true) {H : Type} {enc : TypeId × Value → H} {W W' : World} (hb : Below W.heap.size W W') : ∀ {ts : List TypeId} {vs : List Value} {ds : List (DataW H)} {ps : List MemPlace}, canRead P ts = true → (∀ x ∈ ps, x.block < W.heap.size) →
    DataW.TrodAll enc P W 0 (fun _ => true) true ts vs ds ps → DataW.TrodAll enc P W' 0 (fun b => decide (b < W.heap.size)) true ts vs ds ps
  | [], [], [], _, _, _, h => h
  | t :: ts, v :: vs, d :: ds, ps, hr, hlt, ⟨p, q, h1, h2, hps⟩ => by
    unfold canRead at hr
    simp only [List.all_cons, Bool.and_eq_true, decide_eq_true_eq] at hr
    subst hps
    exact ⟨p, q, Below.trod hl hr.1.1 hr.1.2 h1 hb fun x hx => hlt x (List.mem_append_left _ hx), args_stay hl hb hr.2 (fun x hx => hlt x (List.mem_append_right _ hx)) h2, rfl⟩
  | [], [], _ :: _, _, _, _, h => h.elim
  | [], _ :: _, _, _, _, _, h => h.elim
  | _ :: _, [], _, _, _, _, h => h.elim
  | _ :: _, _ :: _, [], _, _, _, h => h.elim
theorem law_post (hl : laidOutB P = true) {tb : TypeId} (hub : P.underlying tb = some .bool) {H : Type} {enc : TypeId × Value → H} {f : Func} {s : ChangeSpec} {W W' : World} {args : Array Value} {ds : List (DataW H)} {before : List MemPlace} (hv : s.vars = []) (hrt : f.resultTypes = #[tb]) (hc : canRead P f.params.toList = true)
    (hs : (s.fn H (ds ++ [])).results = [.lit (.bool true)] ∧ (s.fn H (ds ++ [])).args = ds ∧ (s.fn H (ds ++ [])).vars = [])
    (hW : DataW.Whole enc P f.params.toList s.vars false W args.toList ds [] before) (hA : DataW.TrodAll enc P W 0 (fun _ => true) true f.params.toList args.toList ds before) (hx : Ext W W') :
    s.post enc P f false true false false W args (.bool true) W' := by
  have hb := hx.below
  refine ⟨ds, [], before, [], before, [], hW, ?_, ?_, ?_, Below.frame hb _, fun h => by cases h⟩
  · rw [hrt, hs.1]
    exact trodAll_cons_mk (shut_bool hub _) trodAll_mk0
  · rw [hs.2.1]
    exact args_stay hl hb hc (fun x hx => hW.lt x hx) hA
  · rw [hs.2.2, hv]; rfl
end
theorem own_knob : ownKnob Tryz.prog.godebug = none := by kernel_rfl
theorem laid_out : laidOutB Tryz.prog = true := by kernel_rfl
theorem bound {H : Type} {l : List (DataW H)} (hk : Rows.uptoSmall H l = true) : Rows.uptoBulkAll l ≤ 1048576 := of_decide_eq_true hk
end Go.Proofs.YtpdkoaklobnegaaGreat
namespace Go.Proofs.YtpdkoaklobnegaaGreat
open Go.Eng Go.ChangeShapes Go.WideShapes Go.ChangeAt Go.RowKit
set_option maxRecDepth 100000
set_option maxHeartbeats 1000000
namespace sinkOnce
theorem contract (H : Type) (enc : TypeId × Value → H) (W : World) (base : Nat) (args : Array Value) (ds gs : List (DataW H)) (before : List MemPlace)
    (hval : ∀ (j : Nat) t v, Tryz.f3.params[j]? = some t → args[j]? = some v → Value.okWide Tryz.prog W .any base t v)
    (hW : DataW.Whole enc Tryz.prog Tryz.f3.params.toList Rows.sinkOnceSpec.vars false W args.toList ds gs before) (hk : Rows.uptoSmall H (ds ++ gs) = true) :
    Calls Tryz.prog 3 args W fun e W' => ∃ v, e = .returned v ∧ Rows.sinkOnceSpec.post enc Tryz.prog Tryz.f3 false true false false W args v W' := by
  have hW' := hW
  obtain ⟨p, q, hA0, hV, rfl, hfz, hnd⟩ := hW
  have hA : DataW.TrodAll enc Tryz.prog W 0 (fun _ => true) true Tryz.f3.params.toList args.toList ds p := hA0
  rw [Tryz.params3] at hA hval
  obtain ⟨v0, vs0, d0, ds0, p0, q0, hargs, rfl, rfl, h0, r0⟩ := trodAll_cons hA
  obtain ⟨v1, vs1, d1, ds1, p1, q1, rfl, rfl, rfl, h1, r1⟩ := trodAll_cons r0
  obtain ⟨v2, vs2, d2, ds2, p2, q2, rfl, rfl, rfl, h2, r2⟩ := trodAll_cons r1
  obtain ⟨rfl, rfl, rfl⟩ := trodAll_nil r2
  obtain rfl : args = #[v0, v1, v2] := by cases args; simp_all
  obtain ⟨rfl, rfl⟩ := trodVars_none hV
  obtain ⟨a0, rfl, rfl, rfl, w0⟩ := open_int Tryz.underlying3 (hval 0 3 v0 rfl rfl) h0
  obtain ⟨b1, n1, c1, rfl⟩ := okWide_slice Tryz.underlying22 (hval 1 22 v1 rfl rfl)
  obtain ⟨b2, n2, c2, rfl⟩ := okWide_slice Tryz.underlying23 (hval 2 23 v2 rfl rfl)
  obtain ⟨f1, hf1⟩ := h1
  obtain ⟨f2, hf2⟩ := h2
  obtain ⟨x1, ⟨u1, hu1, r1⟩, wt1⟩ := rt_Li H enc W f1 _ _ hf1
  obtain ⟨x2, ⟨u2, hu2, r2⟩, wt2⟩ := rt_LKV H enc W f2 _ _ hf2
  obtain rfl : u1 = .slice b1 n1 c1 := by simpa [Value.cells] using hu1.symm
  obtain rfl : u2 = .slice b2 n2 c2 := by simpa [Value.cells] using hu2.symm
  have hb := bound hk
  simp only [List.append_nil, Rows.uptoBulkAll] at hb hW'
  have hw2 : (x2.map Wt.wt).sum + 1 ≤ Rows.uptoBulk d2 := wt2
  refine (d_law_SinkOnce (X := old W) (ev := a0) r1.to_sl r2.to_sl (fun x hx => ?_) W (Kp.refl _ _)).mono fun e W' ⟨v, he, hfr, hq⟩ => ?_
  · have h3 := wt_mem hx
    have h4 : Wt.wt x.key + (Wt.wt x.val.kind + Wt.wt x.val.num + Wt.wt x.val.text + 1) + 1 ≤ (x2.map Wt.wt).sum := h3
    have h5 : x.key.size + 1 = Wt.wt x.key := rfl
    have h6 : x.val.text.size + 1 = Wt.wt x.val.text := rfl
    omega
  subst he
  subst hq
  exact ⟨_, rfl, law_post laid_out Tryz.underlying4 rfl rfl (by kernel_rfl) ⟨rfl, rfl, rfl⟩ hW' (by rw [List.append_nil] at *; exact hA0) hfr⟩
theorem lifted (os : Os) (started : os.Started) (H : Type) (enc : TypeId × Value → H) (F : Stop.Interp) :
    ReturnsInHanded {} Tryz.checked os 3 .any ((Rows.OpenSpec.upto Rows.sinkOnceSpec).pre6 enc Tryz.prog Tryz.f3 Rows.sinkOnceUptoRow.domain false) (((Rows.OpenSpec.upto Rows.sinkOnceSpec).at F).post enc Tryz.prog Tryz.f3 false true false false) := by
  refine returnsInHanded_of_cond (C := Tryz.checked) (s := Rows.OpenSpec.upto Rows.sinkOnceSpec) (k := Rows.uptoSmall) rfl own_knob started (by kernel_rfl) Tryz.func3
    (OpenSpec.witness (enc := enc) (C := Tryz.checked) (s := Rows.OpenSpec.upto Rows.sinkOnceSpec) (k := Rows.uptoSmall) rfl false ⟨#[], #[.int .i64 0, .slice none 0 0, .slice none 0 0], []⟩ 8 (by kernel_rfl) (by kernel_rfl) (by kernel_rfl)
      (x := ([.lit (.int .i64 0), .nil, .nil], [], [])) (by kernel_rfl) rfl (by kernel_rfl)) ?_
  intro W base args ds gs before hval hW _ hk _
  exact contract H enc W base args ds gs before hval hW hk
theorem j_unf : ((Rows.sinkOnceUptoRow).unfollowed == Tryz.prog.unfollowed 3) = true := by kernel_rfl
theorem j_rec : ((Rows.sinkOnceUptoRow).recurses == Tryz.prog.recurses 3) = true := by kernel_rfl
theorem j_inPlace : ((Rows.sinkOnceUptoRow).inPlace == Tryz.prog.inPlace 3) = true := by kernel_rfl
theorem j_named : ((Rows.sinkOnceUptoRow).named == Tryz.prog.varsNamed 3) = true := by kernel_rfl
theorem j_mapsRowed : mapsRowed Tryz.prog = true := by kernel_rfl
theorem j_stops : (Tryz.prog.stops == []) = true := by kernel_rfl
theorem j_knobs : (Tryz.prog.stopKnobs == []) = true := by kernel_rfl
theorem j_heard : Tryz.prog.stopsHeard = true := by kernel_rfl
theorem j_may : Tryz.prog.mayEnter = true := by kernel_rfl
theorem j_keys : ((Rows.sinkOnceUptoRow).plainKeys == Tryz.prog.plainKeys) = true := by kernel_rfl
theorem j_lifted : ((Rows.sinkOnceUptoRow).lifted == Tryz.prog.liftsFinal) = true := by kernel_rfl
theorem j_make : (Tryz.prog.make == some (Rows.sinkOnceUptoRow).make) = true := by kernel_rfl
theorem joined : joinedFacts Tryz.prog 3 Tryz.f3 (Rows.OpenSpec.upto Rows.sinkOnceSpec).bare Rows.sinkOnceUptoRow = true := by
  unfold joinedFacts
  simp only [Bool.and_eq_true]
  and_intros <;> first | with_reducible exact laid_out | with_reducible exact j_unf | with_reducible exact j_rec | with_reducible exact j_inPlace | with_reducible exact j_named | with_reducible exact j_mapsRowed | with_reducible exact j_stops | with_reducible exact j_knobs | with_reducible exact j_heard | with_reducible exact j_may | with_reducible exact j_keys | with_reducible exact j_lifted | with_reducible exact j_make | kernel_rfl
theorem proved : Rows.SinkOnceUptoSaid :=
  OpenClaim.holds_of_cond 3 Tryz.f3 rfl rfl rfl rfl rfl rfl rfl ⟨rfl, rfl, rfl, rfl, rfl⟩ rfl rfl rfl rfl rfl (by kernel_rfl) Tryz.func3 joined
    (of_decide_eq_true (by kernel_rfl)) (by unfold Func.isWrapper; first | (rw [if_pos (by decide +kernel)]; kernel_rfl) | (rw [if_neg (by decide +kernel)]; exact ⟨rfl, rfl⟩))
    (fun os started H enc _ F => lifted os started H enc F)
end sinkOnce
end Go.Proofs.YtpdkoaklobnegaaGreat
