/-
  Part 9 of the proof: what the last text leans on.
-/
import Derived.Test.YtnphlhpdikmpiaaGreatChecked
import Derived.OpenShut
import Derived.JoinedCond
import Derived.Test.YtnphlhpdikmpiaaGreatH8
namespace Go.Proofs.YtnphlhpdikmpiaaGreat
open Go.Eng Go.ChangeShapes Go.WideShapes Go.ChangeAt Go.RowKit
set_option maxRecDepth 100000
set_option maxHeartbeats 1000000
section
variable {P : Program}
def canRead (P : Program) (ts : List TypeId) : Bool := ts.all fun t => P.readableRec t && decide (t < P.types.size)
theorem args_stay (hl : laidOutB P = true) {H : Type} {enc : TypeId × Value → H} {W W' : World} (hb : Below W.heap.size W W') : ∀ {ts : List TypeId} {vs : List Value} {ds : List (DataW H)} {ps : List MemPlace}, canRead P ts = true → (∀ x ∈ ps, x.block < W.heap.size) →
    DataW.TrodAll enc P W 0 (fun _ => true) true ts vs ds ps → DataW.TrodAll enc P W' 0 (fun b => decide (b < W.heap.size)) true ts vs ds ps
  | [], [], [], _, _, _, h => h
  | t :: ts, v :: vs, d :: ds, ps, hr, hlt, ⟨p, q, h1, h2, hps⟩ => by
    unfold canRead at hr
    simp only [List.all_cons, Bool.and_eq_true, decide_eq_true_eq] at hr
    subst hps
    exact ⟨p, q, Below.trod hl hr.1.1 hr.1.2 h1 hb fun x hx => hlt x (List.mem_append_left _ hx), args_stay hl hb hr.2 (fun x hx => hlt x (List.mem_append_right _ hx)) h2, rfl⟩
  | [], [], _ :: _, _, _, _, h => h.elim
  | [], _ :: _, _, _, _, _, h => h.elim
  | _ :: _, [], _, _, _, _, h => h.elim
  | _ :: _, _ :: _, [], _, _, _, h => h.elim
theorem law_post (hl : laidOutB P = true) {tb : TypeId} (hub : P.underlying tb = some .bool) {H : Type} {enc : TypeId × Value → H} {f : Func} {s : ChangeSpec} {W W' : World} {args : Array Value} {ds : List (DataW H)} {before : List MemPlace} (hv : s.vars = []) (hrt : f.resultTypes = #[tb]) (hc : canRead P f.params.toList = true)
    (hs : (s.fn H (ds ++ [])).results = [.lit (.bool true)] ∧ (s.fn H (ds ++ [])).args = ds ∧ (s.fn H (ds ++ [])).vars = [])
    (hW : DataW.Whole enc P f.params.toList s.vars false W args.toList ds [] before) (hA : DataW.TrodAll enc P W 0 (fun _ => true) true f.params.toList args.toList ds before) (hx : Ext W W') :
    s.post enc P f false true false false W args (.bool true) W' := by
  have hb := hx.below
  refine ⟨ds, [], before, [], before, [], hW, ?_, ?_, ?_, Below.frame hb _, fun h => by cases h⟩
  · rw [hrt, hs.1]
    exact trodAll_cons_mk (shut_bool hub _) trodAll_mk0
  · rw [hs.2.1]
    exact args_stay hl hb hc (fun x hx => hW.lt x hx) hA
  · rw [hs.2.2, hv]; rfl
end
theorem own_knob : ownKnob Tryz.prog.godebug = none := by kernel_rfl
theorem laid_out : laidOutB Tryz.prog = true := by kernel_rfl
theorem bound {H : Type} {l : List (DataW H)} (hk : Rows.uptoSmall H l = true) : Rows.uptoBulkAll l ≤ 1048576 := of_decide_eq_true hk
end Go.Proofs.YtnphlhpdikmpiaaGreat
namespace Go.Proofs.YtnphlhpdikmpiaaGreat
open Go.Eng Go.ChangeShapes Go.WideShapes Go.ChangeAt Go.RowKit
set_option maxRecDepth 100000
set_option maxHeartbeats 1000000
theorem rt_LRec : RdT 22 (rdL 29 Rec.rd) := rd_slice (by kernel_rfl) (by kernel_rfl) (by decide) rt_Rec
theorem sum_part {α : Type} [Wt α] {f : α → Nat} {B : Nat} {l : List α} (h : (l.map Wt.wt).sum ≤ B) (hf : ∀ x, f x ≤ Wt.wt x) : (l.map f).sum ≤ B := by
  refine Nat.le_trans ?_ h
  clear h
  induction l with
  | nil => simp
  | cons x l ih => have := hf x; simp; omega
theorem key_le {s : BA} {B : Nat} (h : Wt.wt s ≤ B) : s.size ≤ B := by
  have : s.size + 1 ≤ B := h
  omega
theorem Pend.wt_ok {p : Pend} {B : Nat} (h : Wt.wt p ≤ B) (hB : B ≤ 2 ^ 40) : p.ok := by
  have h' : Wt.wt p.txn + Wt.wt p.stamp + ((p.reads.map Wt.wt).sum + 1) + ((p.writes.map Wt.wt).sum + 1) + 1 ≤ B := h
  have h1 := wt_len p.reads
  have h2 := wt_len p.writes
  refine ⟨by omega, by omega, fun k hk => ?_, fun x hx => ?_⟩
  · have := wt_mem hk
    exact Nat.le_trans (key_le this) (by omega)
  · have := wt_mem hx
    have h4 : Wt.wt x.key + Wt.wt x.val + 1 ≤ (p.writes.map Wt.wt).sum := this
    exact Nat.le_trans (key_le (Nat.le_refl _)) (by omega)
theorem State.wt_small {s : State} {B : Nat} (h : Wt.wt s ≤ B) (hB : B ≤ 2 ^ 40) : s.small := by
  have h' : Wt.wt s.range + Wt.wt s.floor + Wt.wt s.closed + ((s.hists.map Wt.wt).sum + 1) + ((s.pend.map Wt.wt).sum + 1) + 1 ≤ B := h
  have hp : ∀ p ∈ s.pend, p.ok := fun p hp => Pend.wt_ok (B := B) (Nat.le_trans (wt_mem hp) (by omega)) hB
  have hh : ∀ x ∈ s.hists, Wt.wt x.key + ((x.vers.map Wt.wt).sum + 1) + 1 ≤ B := fun x hx => by
    have := wt_mem hx
    have h4 : Wt.wt x.key + ((x.vers.map Wt.wt).sum + 1) + 1 ≤ (s.hists.map Wt.wt).sum := this
    omega
  refine ⟨fun x hx => ?_, fun p hq => ⟨(hp p hq).r, (hp p hq).w⟩, fun x hx => ?_, fun p hq => ⟨(hp p hq).rk, (hp p hq).wk⟩⟩
  · have := hh x hx
    have := wt_len x.vers
    omega
  · have := hh x hx
    exact Nat.le_trans (key_le (Nat.le_refl _)) (by omega)
theorem Rec.wt_small {r : Rec} {B : Nat} (h : Wt.wt r ≤ B) (hB : B ≤ 2 ^ 40) : r.small := by
  have h' : Wt.wt r.kind + Wt.wt r.txn + Wt.wt r.stamp + Wt.wt r.prev + Wt.wt r.commit + Wt.wt r.n + Wt.wt r.point + ((r.reads.map Wt.wt).sum + 1) + ((r.writes.map Wt.wt).sum + 1) + Wt.wt r.parts + Wt.wt r.pairs + Wt.wt r.state + 1 ≤ B := h
  have h1 := wt_len r.reads
  have h2 := wt_len r.writes
  refine ⟨by omega, by omega, fun k hk => ?_, fun x hx => ?_, State.wt_small (B := B) (by omega) hB⟩
  · exact Nat.le_trans (key_le (wt_mem hk)) (by omega)
  · have := wt_mem hx
    have h4 : Wt.wt x.key + Wt.wt x.val + 1 ≤ (r.writes.map Wt.wt).sum := this
    exact Nat.le_trans (key_le (Nat.le_refl _)) (by omega)
theorem loadOf_le (r : Rec) : loadOf r ≤ Wt.wt r := by
  have h' : Wt.wt r.kind + Wt.wt r.txn + Wt.wt r.stamp + Wt.wt r.prev + Wt.wt r.commit + Wt.wt r.n + Wt.wt r.point + Wt.wt r.reads + Wt.wt r.writes + Wt.wt r.parts + Wt.wt r.pairs +
      (Wt.wt r.state.range + Wt.wt r.state.floor + Wt.wt r.state.closed + Wt.wt r.state.hists + ((r.state.pend.map Wt.wt).sum + 1) + 1) + 1 = Wt.wt r := rfl
  have := wt_len r.state.pend
  unfold loadOf; omega
namespace tailRefused
end tailRefused
end Go.Proofs.YtnphlhpdikmpiaaGreat
namespace Go.Proofs.YtnphlhpdikmpiaaGreat
open Go.Eng
set_option maxRecDepth 100000
set_option maxHeartbeats 1000000
set_option linter.unusedVariables false
set_option linter.unusedSimpArgs false
attribute [local irreducible] un jn chk fld ld1 ldA st1 ixS lnS lnT bld cvI cvF ixA bsS apS rdV rdW grdW eW eV eU eC eF gE condW fin pickN nilN binS vS lp0 lp1 lp2 lp3 lp4 lp5 lp6 lp7 nx0 nx1 nx2 nx3 nx4 nx5 nx6 nx7
theorem c_ref8_May (a : Stamp) : Pure Tryz.prog 90 #[a.v] (B a.may) := by
  intro w0
  apply ok_raceref8_May; unfold vc_raceref8_May
  have hs := Since.init w0
  repeat' first | with_reducible (first | apply un_selT | apply un_selFT | apply grdV_onT | apply grdW_offT | apply rdW_pickT | apply rdW_pickF) | (with_reducible apply r_leq <;> intro _) | (with_reducible apply r_geq <;> intro _) | ((with_reducible refine fin_pure hs ?_); simp_all [Stamp.may] <;> omega)
def ordI (a b : Int) : Int := if a < b then -1 else if a > b then 1 else 0
theorem c_ref8_order (a b : Int) : Pure Tryz.prog 118 #[I a, I b] (I (ordI a b)) := by
  intro w0
  apply ok_raceref8_order; unfold vc_raceref8_order
  have hs := Since.init w0
  repeat' first | with_reducible (first | apply condW_T | apply condW_F) | (with_reducible apply r_lss <;> intro _) | (with_reducible apply r_gtr <;> intro _) | ((with_reducible refine fin_pure hs ?_); simp_all [ordI] <;> omega)
theorem c_ref8_Compare (a b : Stamp) : Pure Tryz.prog 88 #[a.v, b.v] (I (a.cmp b)) := by
  intro w0
  apply ok_raceref8_Compare; unfold vc_raceref8_Compare
  have hs := Since.init w0
  repeat' first | with_reducible (first | apply condW_T | apply condW_F) | (with_reducible apply r_eql <;> intro _) | with_reducible apply jn_of | ((with_reducible refine r_pure (c_ref8_order _ _) ?_ hs.has ?_); (· kernel_rfl); intro w X hs1; replace hs := hs.trans hs1) | ((with_reducible refine fin_pure hs ?_); (simp only [ordI, Stamp.cmp] at *; grind))
theorem c_ref8_Less (a b : Stamp) : Pure Tryz.prog 67 #[a.v, b.v] (B (decide (a.cmp b < 0))) := by
  intro w0
  apply ok_raceref8_Less; unfold vc_raceref8_Less
  have hs := Since.init w0
  repeat' first | (with_reducible apply r_lss <;> intro _) | ((with_reducible refine r_pure (c_ref8_Compare _ _) ?_ hs.has ?_); (· kernel_rfl); intro w X hs1; replace hs := hs.trans hs1) | ((with_reducible refine fin_pure hs ?_); simp_all <;> omega)
theorem c_ref8_Later (a b : Stamp) : Pure Tryz.prog 31 #[a.v, b.v] (a.later b).v := by
  intro w0
  apply ok_raceref8_Later; unfold vc_raceref8_Later
  have hs := Since.init w0
  repeat' first | with_reducible (first | apply condW_T | apply condW_F) | ((with_reducible refine r_pureB (c_ref8_Less _ _) ?_ hs.has ?_ ?_); (· kernel_rfl); all_goals (intro _ w X hs1; replace hs := hs.trans hs1)) | ((with_reducible refine fin_pure hs ?_); simp_all [Stamp.later] <;> grind)
theorem c_ref8_Prior (s : Stamp) : Pure Tryz.prog 71 #[s.v] (.tuple #[s.prior.1.v, B s.prior.2]) := by
  intro w0
  apply ok_raceref8_Prior; unfold vc_raceref8_Prior
  have hs := Since.init w0
  repeat' first | with_reducible (first | apply condW_T | apply condW_F) | ((with_reducible apply m_sub); (· (simp only [Value.cells, nq1, nq2, nq3, nq4, nq5, nq6, setL, nq7, nq8, nq9, nq0, Nat.reduceAdd, Nat.zero_add]; try rfl))) | with_reducible (first | apply un_box | apply un_selF | apply un_selTF | apply grdV_onF | apply grdW_offF | apply rdW_pickT | apply rdW_pickF | apply r_notT | apply r_notF) | (with_reducible apply r_gtr <;> intro _) | ((with_reducible apply r_bld); (· kernel_rfl)) | ((with_reducible refine r_eqS0 _ ?_ ?_ ?_); (· kernel_rfl); all_goals intros) | ((with_reducible apply m_chkc); (case h => (repeat' first | with_reducible apply all_one_cons | with_reducible exact all_one_nil | assumption | rfl | exact Sl.one (by assumption) | exact Rws.one (by assumption) | exact Sl.one (Own.sl (by assumption))))) | ((with_reducible apply chk_T); (· first | rfl | assumption | exact Sl.one (by assumption) | exact Rws.one (by assumption) | exact Sl.one (Own.sl (by assumption)))) | ((with_reducible refine r_pureB (c_ref8_May _) ?_ hs.has ?_ ?_); (· kernel_rfl); all_goals (intro _ w X hs1; replace hs := hs.trans hs1)) | ((with_reducible refine fin_pure hs ?_); (simp_all [Stamp.prior] <;> grind)) | (have hb := Stamp.may_iff.1 ‹_›; (with_reducible refine r_sub ?_ ?_ ?_); (· omega); (· omega))
theorem c_ref10_TxnMay (a : Txn) : Pure Tryz.prog 112 #[a.v] (B a.may) := by
  intro w0
  apply ok_raceref10_TxnMay; unfold vc_raceref10_TxnMay
  have hs := Since.init w0
  repeat' first | with_reducible (first | apply un_selT | apply un_selFT | apply grdV_onT | apply grdW_offT | apply rdW_pickT | apply rdW_pickF) | (with_reducible apply r_leq <;> intro _) | (with_reducible apply r_geq <;> intro _) | ((with_reducible refine fin_pure hs ?_); simp_all [Txn.may] <;> omega)
theorem c_ref10_TxnLess (a b : Txn) : Pure Tryz.prog 68 #[a.v, b.v] (B (a.less b)) := by
  intro w0
  apply ok_raceref10_TxnLess; unfold vc_raceref10_TxnLess
  have hs := Since.init w0
  repeat' first | with_reducible (first | apply condW_T | apply condW_F) | (with_reducible apply r_lss <;> intro _) | (with_reducible apply r_neq <;> intro _) | ((with_reducible refine fin_pure hs ?_); simp_all [Txn.less])
def refPoint (x : Nat) : Bool := decide (x = 0) || (fgt x 0 && (flt x one64 || feq x one64))
theorem c_ref4_is (x : Nat) : Pure Tryz.prog 150 #[.float .f64 x] (B (refPoint x)) := by
  intro w0
  apply ok_raceref4_is; unfold vc_raceref4_is
  have hs := Since.init w0
  repeat' first | with_reducible (first | apply un_selT | apply un_selF | apply un_selTF | apply un_selFT | apply un_selU | apply grdV_onT | apply grdV_onF | apply grdW_onF | apply grdW_offT | apply grdW_offF | apply grdW_U | apply rdW_pickT | apply rdW_pickF) | (with_reducible apply r_fgtr <;> intro _) | (with_reducible apply r_fleq <;> intros) | ((with_reducible refine r_pureB (c_raceref_Bits _ _) ?_ hs.has ?_ ?_); (· kernel_rfl); all_goals (intro _ w X hs1; replace hs := hs.trans hs1)) | ((with_reducible refine fin_pure hs ?_); (simp only [refPoint, one64] at *; grind))
def refRange (r : Rng) : Bool := decide (r.id ≥ 1) && decide (r.id ≤ 12) && decide (r.epoch ≥ 0) && refPoint r.lo && refPoint r.hi && flt r.lo r.hi
theorem c_ref4_May (r : Rng) : Pure Tryz.prog 135 #[r.v] (B (refRange r)) := by
  intro w0
  apply ok_raceref4_May; unfold vc_raceref4_May
  have hs := Since.init w0
  repeat' first | with_reducible (first | apply un_selT | apply un_selFT | apply grdV_onT | apply grdW_offT | apply rdW_pickT | apply rdW_pickF | apply gE_T | apply gE_FT) | (with_reducible apply r_leq <;> intro _) | (with_reducible apply r_geq <;> intro _) | (with_reducible apply r_flss <;> intro _) | with_reducible apply jn_of | ((with_reducible refine r_pureB (c_ref4_is _) ?_ hs.has ?_ ?_); (· kernel_rfl); all_goals (intro _ w X hs1; replace hs := hs.trans hs1)) | ((with_reducible refine fin_pure hs ?_); (simp_all [refRange] <;> omega))
theorem c_ref4_In (r : Rng) (x : Nat) : Pure Tryz.prog 155 #[r.v, .float .f64 x] (B ((fgt x r.lo || feq x r.lo) && flt x r.hi)) := by
  intro w0
  apply ok_raceref4_In; unfold vc_raceref4_In
  have hs := Since.init w0
  repeat' first | with_reducible (first | apply un_selT | apply un_selFT | apply grdV_onT | apply grdW_offT | apply rdW_pickT | apply rdW_pickF) | (with_reducible apply r_flss <;> intro _) | (with_reducible apply r_fgeq <;> intros) | ((with_reducible refine fin_pure hs ?_); (simp_all <;> grind))
theorem c_ref3_Key (s : BA) : Pure Tryz.prog 140 #[.string s] (B (goodKey s)) := by
  intro w0
  apply ok_raceref3_Key; unfold vc_raceref3_Key
  have hs := Since.init w0
  repeat' first | with_reducible (first | apply un_selT | apply un_selFT | apply grdV_onT | apply grdW_offT | apply rdW_pickT | apply rdW_pickF) | (with_reducible apply r_leq <;> intro _) | (with_reducible apply r_geq <;> intro _) | ((with_reducible apply r_lnT); (· kernel_rfl)) | ((with_reducible refine fin_pure hs ?_); simp_all [goodKey] <;> omega)
theorem c_ref1_Bits (x : Nat) : Pure Tryz.prog 166 #[.float .f64 x] (.int .u64 (canon x)) := by
  intro w0
  apply ok_raceref1_Bits; unfold vc_raceref1_Bits
  have hs := Since.init w0
  repeat' first | with_reducible (first | apply condW_T | apply condW_F) | (with_reducible apply r_fneq <;> intro _) | ((with_reducible refine fin_pure hs ?_); (unfold canon; first | rw [if_pos (by assumption)] | (rw [if_neg (by rw [‹feq x x = false›]; decide)]; rfl))) | ((with_reducible refine eC_val (run_bits _) hs.has ?_); intro w X hs1; replace hs := hs.trans hs1)
theorem c_ref1_Canon (x : Nat) : Pure Tryz.prog 156 #[.float .f64 x] (.float .f64 (canon x)) := by
  intro w0
  apply ok_raceref1_Canon; unfold vc_raceref1_Canon
  have hs := Since.init w0
  repeat' first | ((with_reducible refine r_pure (c_ref1_Bits _) ?_ hs.has ?_); (· kernel_rfl); intro w X hs1; replace hs := hs.trans hs1) | ((with_reducible refine fin_pure hs ?_); (simp_all)) | ((with_reducible refine eC_val (run_frombits _) hs.has ?_); intro w X hs1; replace hs := hs.trans hs1)
theorem c_ref3_May (v : Val) : Pure Tryz.prog 141 #[v.v] (B v.may) := by
  intro w0
  apply ok_raceref3_May; unfold vc_raceref3_May
  have hs := Since.init w0
  repeat' first | with_reducible (first | apply condW_T | apply condW_F | apply un_selT | apply un_selFT | apply grdV_onT | apply grdW_offT | apply rdW_pickT | apply rdW_pickF) | (with_reducible apply r_eql <;> intro _) | (with_reducible apply r_leq <;> intro _) | (with_reducible apply r_seql <;> intro _) | ((with_reducible apply r_lnT); (· kernel_rfl)) | ((with_reducible refine r_pureB (c_raceref_Bits _ _) ?_ hs.has ?_ ?_); (· kernel_rfl); all_goals (intro _ w X hs1; replace hs := hs.trans hs1)) | ((with_reducible refine r_pure (c_ref1_Canon _) ?_ hs.has ?_); (· kernel_rfl); intro w X hs1; replace hs := hs.trans hs1) | ((with_reducible refine fin_pure hs ?_); (simp only [Val.may] at *; grind))
theorem c_ref4_Hash (s : BA) (hbig : s.size ≤ 2 ^ 62) : Pure Tryz.prog 119 #[.string s] (.int .u64 (hashOf s)) := by
  intro w0
  have hsz := size_list s
  apply ok_raceref4_Hash; unfold vc_raceref4_Hash
  have hs := Since.init w0
  skip
  refine lp2_of (fun n a b w X => ∃ (i : Nat) (h : Int), a = I i ∧ b = .int .u64 h ∧ n = s.data.toList.length - i ∧ i ≤ s.data.toList.length ∧ Since (old w0) w0 X w ∧
    s.data.toList.foldl hstep 14695981039346656037 = (s.data.toList.drop i).foldl hstep h) s.data.toList.length ?_ ?_
  · exact ⟨0, 14695981039346656037, rfl, rfl, rfl, Nat.zero_le _, hs, by rw [List.drop_zero]⟩
  rintro n a b w X ⟨i, h, rfl, rfl, rfl, hi, hs, hw⟩
  rcases at_or s.data.toList i with ⟨hlt, x, hx, hd⟩ | ⟨hge, hd⟩
  · repeat' first | ((with_reducible refine r_lssT ?_ ?_); (· omega)) | with_reducible apply condW_T | ((with_reducible apply r_lnT); (· kernel_rfl)) | ((with_reducible apply r_add); (· omega); (· omega)) | ((with_reducible apply r_cvI); (· kernel_rfl); (· kernel_rfl)) | ((with_reducible apply r_ixT); (try (case hz => rfl)); (case hb => assumption); (try (case hz => omega)); (case ht => kernel_rfl)) | with_reducible (first | apply r_ixor | apply r_imul) | ((with_reducible refine nx2_of ((s.data.toList).length - (i + 1)) ?_ ?_); (· omega); exact ⟨i + 1, _, by simp, rfl, rfl, by omega, hs, by rw [hw, hd, List.foldl_cons]; rfl⟩)
  · rw [hd] at hw
    repeat' first | ((with_reducible refine r_lssF ?_ ?_); (· omega)) | with_reducible apply condW_F | ((with_reducible apply r_lnT); (· kernel_rfl)) | with_reducible (first | apply r_ixor | apply r_imul) | ((with_reducible apply r_ishr); (· omega)) | ((with_reducible refine fin_pure hs ?_); (show Value.int .u64 _ = Value.int .u64 _; simp only [hashOf, hw]; rfl))
theorem c_ref4_Of (s : BA) (hbig : s.size ≤ 2 ^ 62) : Pure Tryz.prog 89 #[.string s] (.float .f64 (placeOf s)) := by
  intro w0
  apply ok_raceref4_Of; unfold vc_raceref4_Of
  have hs := Since.init w0
  repeat' first | ((with_reducible apply r_cvF); (· kernel_rfl); (· kernel_rfl)) | ((with_reducible refine r_pure (c_ref4_Hash _ (by first | assumption | omega)) ?_ hs.has ?_); (· kernel_rfl); intro w X hs1; replace hs := hs.trans hs1) | ((with_reducible refine fin_pure hs ?_); rfl) | ((with_reducible apply r_ishr); (· omega)) | with_reducible apply r_fop (placeOf_eq s)
theorem c_ref11_in (r : Rng) (s : BA) (hbig : s.size ≤ 2 ^ 62) : Pure Tryz.prog 137 #[r.v, .string s] (B (r.key s)) := by
  intro w0
  apply ok_raceref11_in; unfold vc_raceref11_in
  have hs := Since.init w0
  repeat' first | ((with_reducible refine r_pure (c_ref4_Of _ (by first | assumption | omega)) ?_ hs.has ?_); (· kernel_rfl); intro w X hs1; replace hs := hs.trans hs1) | ((with_reducible refine r_pureB (c_ref4_In _ _) ?_ hs.has ?_ ?_); (· kernel_rfl); all_goals (intro _ w X hs1; replace hs := hs.trans hs1)) | ((with_reducible refine fin_pure hs ?_); (simp_all [Rng.key, Rng.has]))
theorem c_ref15_below (s : BA) (pt : Nat) (hbig : s.size ≤ 2 ^ 62) : Pure Tryz.prog 70 #[.string s, .float .f64 pt] (B (below pt s)) := by
  intro w0
  apply ok_raceref15_below; unfold vc_raceref15_below
  have hs := Since.init w0
  repeat' first | (with_reducible apply r_flss <;> intro _) | ((with_reducible refine r_pure (c_ref4_Of _ (by first | assumption | omega)) ?_ hs.has ?_); (· kernel_rfl); intro w X hs1; replace hs := hs.trans hs1) | ((with_reducible refine fin_pure hs ?_); (simp_all [below]))
end Go.Proofs.YtnphlhpdikmpiaaGreat
namespace Go.Proofs.YtnphlhpdikmpiaaGreat
open Go.Eng
set_option maxRecDepth 100000
set_option maxHeartbeats 1000000
theorem toNat_ofInt {a : Int} (h0 : 0 ≤ a) (h1 : a < 18446744073709551616) : (BitVec.ofInt IntKind.u64.bits a).toNat = a.toNat := by
  show (BitVec.ofInt 64 a).toNat = _
  rw [BitVec.toNat_ofInt]
  show (a % (2 ^ 64 : Nat)).toNat = _
  rw [Int.emod_eq_of_lt h0 (by simpa using h1)]
theorem wrap_u {a : Int} (h0 : 0 ≤ a) (h1 : a < 18446744073709551616) : IntKind.u64.wrap a = a := by
  simp only [IntKind.wrap, IntKind.bits, IntKind.signed]
  simp
  omega
theorem land_nat {a b : Int} (ha : 0 ≤ a) (ha1 : a < 18446744073709551616) (hb : 0 ≤ b) (hb1 : b < 18446744073709551616) : land a b = ((a.toNat &&& b.toNat : Nat) : Int) := by
  unfold land
  have h := BitVec.toNat_and (BitVec.ofInt IntKind.u64.bits a) (BitVec.ofInt IntKind.u64.bits b)
  rw [toNat_ofInt ha ha1, toNat_ofInt hb hb1] at h
  rw [h]
  have hle : a.toNat &&& b.toNat ≤ a.toNat := Nat.and_le_left
  exact wrap_u (by omega) (by omega)
theorem land_mask {a : Int} {k : Nat} (ha : 0 ≤ a) (ha1 : a < 18446744073709551616) (hk : (2 : Int) ^ k - 1 < 18446744073709551616) : land a ((2 : Int) ^ k - 1) = a % 2 ^ k := by
  have hp : (1 : Int) ≤ 2 ^ k := by
    have : 0 < (2 : Int) ^ k := Int.pow_pos (by decide)
    omega
  rw [land_nat ha ha1 (by omega) hk]
  have h1 : ((2 : Int) ^ k - 1).toNat = 2 ^ k - 1 := by
    have : ((2 : Int) ^ k) = ((2 ^ k : Nat) : Int) := by simp
    rw [this]; omega
  rw [h1, Nat.and_two_pow_sub_one_eq_mod]
  have h2 : (a.toNat : Int) = a := Int.toNat_of_nonneg ha
  rw [Int.natCast_emod, h2]; simp
theorem land_top {a : Int} (ha : 0 ≤ a) (ha1 : a < 18446744073709551616) : (land a 9223372036854775808 ≠ 0) ↔ 9223372036854775808 ≤ a := by
  rw [land_nat ha ha1 (by decide) (by decide)]
  have h1 : (9223372036854775808 : Int).toNat = 2 ^ 63 := by decide
  rw [h1]
  have key : (a.toNat &&& 2 ^ 63 ≠ 0) ↔ 2 ^ 63 ≤ a.toNat := by
    constructor
    · intro h
      refine Nat.le_of_not_lt fun hlt => h ?_
      apply Nat.eq_of_testBit_eq
      intro i
      rw [Nat.testBit_and, Nat.zero_testBit, Nat.testBit_two_pow]
      by_cases hi : 63 = i
      · subst hi; rw [Nat.testBit_lt_two_pow hlt]; rfl
      · simp [hi]
    · intro hge h0
      have := congrArg (Nat.testBit · 63) h0
      simp only [Nat.testBit_and, Nat.testBit_two_pow_self, Bool.and_true, Nat.zero_testBit] at this
      rw [Nat.testBit_eq_decide_div_mod_eq] at this
      have hc : a.toNat / 2 ^ 63 % 2 = 1 := by omega
      simp [hc] at this
  constructor
  · intro h
    have := key.1 (fun h0 => h (by rw [h0]; rfl))
    omega
  · intro h h0
    exact key.2 (by omega) (by omega)
theorem read_nan {x : Nat} : (Ieee.double.read x).isNaN = decide (9218868437227405312 < x % 9223372036854775808) := by
  have h1 : Ieee.double.signWeight = 9223372036854775808 := by decide
  have h2 : Ieee.double.binade = 4503599627370496 := by decide
  have h3 : Ieee.double.infRung = 9218868437227405312 := by decide
  unfold Ieee.Format.read
  rw [h1, h2, h3]
  generalize x % 9223372036854775808 = r
  dsimp only
  split
  · have : ¬ 9218868437227405312 < r := by omega
    simp [Ieee.Datum.isNaN, this]
  · split
    · have : ¬ 9218868437227405312 < r := by omega
      simp [Ieee.Datum.isNaN, this]
    · split
      · have : ¬ 9218868437227405312 < r := by omega
        simp [Ieee.Datum.isNaN, this]
      · have : 9218868437227405312 < r := by omega
        simp [Ieee.Datum.isNaN, this]
theorem feq_self (x : Nat) : feq x x = !(Ieee.double.read x).isNaN := by
  unfold feq
  show ((Ieee.double.read x).order (Ieee.double.read x) == some Ordering.eq) = _
  cases Ieee.double.read x with
  | number s m p => simp [Ieee.Datum.order, Ieee.Datum.isNaN]
  | infinity s => simp [Ieee.Datum.order, Ieee.Datum.isNaN]
  | nan s f => simp [Ieee.Datum.order, Ieee.Datum.isNaN]
theorem cls_ge {x : Nat} (hx : x < 18446744073709551616) : (cls x ≥ 5) ↔ feq x x = true ∧ x < 9223372036854775808 := by
  unfold cls canon
  by_cases hf : feq x x = true
  · rw [if_pos hf]
    have hn : ¬ 9218868437227405312 < x % 9223372036854775808 := by
      have := feq_self x
      rw [hf, read_nan] at this
      simpa using this
    have h1 := land_top (a := (x : Int)) (by omega) (by omega)
    have h2 : ishr (x : Int) 52 = (x : Int) / 4503599627370496 := by
      unfold ishr
      show Int.fdiv (x : Int) (2 ^ min 52 64) = _
      rw [Int.fdiv_eq_ediv_of_nonneg _ (by decide)]; rfl
    have h3 : land ((x : Int) / 4503599627370496) 2047 = (x : Int) / 4503599627370496 % 2048 := land_mask (k := 11) (by omega) (by omega) (by decide)
    have h4 : land (x : Int) 4503599627370495 = (x : Int) % 4503599627370496 := land_mask (k := 52) (by omega) (by omega) (by decide)
    simp only [h2, h3, h4, hf, true_and]
    rw [if_neg (by omega)]
    by_cases h5 : (9223372036854775808 : Int) ≤ x
    · rw [if_pos (h1.2 h5)]
      constructor
      · intro h; exfalso; revert h; repeat' split
        all_goals omega
      · intro h; omega
    · rw [if_neg (fun h => h5 (h1.1 h))]
      constructor
      · intro _; omega
      · intro _; repeat' split
        all_goals omega
  · have hf' : feq x x = false := by simpa using hf
    rw [if_neg hf]
    constructor
    · intro h
      exfalso; revert h
      decide +kernel
    · intro h; exact absurd h.1 hf
theorem fgt_zero {x : Nat} (hx : x < 18446744073709551616) : fgt x 0 = (feq x x && decide (x < 9223372036854775808) && decide (x ≠ 0)) := by
  rw [feq_self, read_nan]
  have h1 : Ieee.double.signWeight = 9223372036854775808 := by decide
  have h2 : Ieee.double.binade = 4503599627370496 := by decide
  have h3 : Ieee.double.infRung = 9218868437227405312 := by decide
  have h0 : Ieee.double.read 0 = .number false 0 Ieee.double.leastPlace := by decide +kernel
  unfold fgt
  show ((Ieee.double.read x).order (Ieee.double.read 0) == some Ordering.gt) = _
  rw [h0]
  have hz : ∀ n, Ieee.signed false 0 n = 0 := fun n => by simp [Ieee.signed]
  have hp : ∀ m n : Nat, 0 < m → (0 : Int) < Ieee.signed false m n := fun m n hm => by
    simp only [Ieee.signed, Bool.false_eq_true, if_false, Nat.shiftLeft_eq]
    have : 0 < m * 2 ^ n := Nat.mul_pos hm (Nat.pow_pos (by decide))
    omega
  have hng : ∀ m n : Nat, Ieee.signed true m n ≤ 0 := fun m n => by
    show -((m <<< n : Nat) : Int) ≤ 0
    have : (0 : Int) ≤ ((m <<< n : Nat) : Int) := Int.natCast_nonneg _
    omega
  have gt_iff : ∀ a : Int, (some (compare a 0) == some Ordering.gt) = decide (0 < a) := fun a => by
    by_cases ha : 0 < a
    · have : compare a 0 = .gt := Int.compare_eq_gt.2 ha
      simp [this, ha]
    · have : compare a 0 ≠ .gt := fun h => ha (Int.compare_eq_gt.1 h)
      cases hc : compare a 0 <;> simp_all
  unfold Ieee.Format.read
  rw [h1, h2, h3]
  dsimp only
  by_cases hs : 9223372036854775808 ≤ x
  · have hneg : (x / 9223372036854775808 % 2 == 1) = true := by
      have : x / 9223372036854775808 % 2 = 1 := by omega
      simp [this]
    rw [hneg]
    have hlt : ¬ x < 9223372036854775808 := by omega
    simp only [hlt, decide_false, Bool.and_false, Bool.false_and]
    split
    · simp only [Ieee.Datum.order, hz, gt_iff]; simpa using hng _ _
    · split
      · simp only [Ieee.Datum.order, hz, gt_iff]; simpa using hng _ _
      · split
        · simp [Ieee.Datum.order]
        · simp [Ieee.Datum.order]
  · have hneg : (x / 9223372036854775808 % 2 == 1) = false := by
      have : x / 9223372036854775808 % 2 = 0 := by omega
      simp [this]
    rw [hneg]
    have hm : x % 9223372036854775808 = x := by omega
    rw [hm]
    have hlt : x < 9223372036854775808 := by omega
    simp only [hlt, decide_true, Bool.and_true]
    split
    · rename_i hb
      have hnn : ¬ 9218868437227405312 < x := by omega
      simp only [Ieee.Datum.order, hz, gt_iff, hnn, decide_false, Bool.not_false, Bool.true_and]
      by_cases h0 : x = 0
      · subst h0; simp [hz]
      · have := hp x 0 (by omega)
        simp [this, h0]
    · split
      · rename_i hb hi
        have hnn : ¬ 9218868437227405312 < x := by omega
        have h0 : x ≠ 0 := by omega
        simp only [Ieee.Datum.order, hz, gt_iff, hnn, decide_false, Bool.not_false, Bool.true_and, h0, ne_eq, not_false_eq_true, decide_true]
        simp only [decide_eq_true_eq]
        exact hp _ _ (by omega)
      · split
        · rename_i hb hi he
          have hnn : ¬ 9218868437227405312 < x := by omega
          have h0 : x ≠ 0 := by omega
          simp [Ieee.Datum.order, hnn, h0]
        · rename_i hb hi he
          have hnn : 9218868437227405312 < x := by omega
          simp [Ieee.Datum.order, hnn]
theorem refPoint_eq {x : Nat} (hx : x < 18446744073709551616) : refPoint x = isPoint x := by
  have h1 := cls_ge hx
  have h2 := fgt_zero hx
  unfold refPoint isPoint
  rw [h2]
  by_cases h0 : x = 0
  · subst h0
    decide +kernel
  · by_cases h3 : feq x x = true ∧ x < 9223372036854775808
    · have := h1.2 h3
      simp [h0, h3.1, h3.2, this]
    · have hc : ¬ cls x ≥ 5 := fun h => h3 (h1.1 h)
      have : (feq x x && decide (x < 9223372036854775808)) = false := by
        cases hq : feq x x
        · rfl
        · simp only [Bool.true_and, decide_eq_false_iff_not]; intro h; exact h3 ⟨hq, h⟩
      rw [this]
      simp [h0, hc]
end Go.Proofs.YtnphlhpdikmpiaaGreat
