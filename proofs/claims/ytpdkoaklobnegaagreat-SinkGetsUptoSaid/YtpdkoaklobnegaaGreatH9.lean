/-
  racelaw22.SinkGets returns true, whatever it is called with, where what it reads is of bulk at most 1048576; the input reads as it did.
-/
import Derived.Test.YtpdkoaklobnegaaGreatChecked
import Derived.OpenShut
import Derived.JoinedCond
import Derived.Test.YtpdkoaklobnegaaGreatH8
namespace Go.Proofs.YtpdkoaklobnegaaGreat
open Go.Eng Go.ChangeShapes Go.WideShapes Go.ChangeAt Go.RowKit
set_option maxRecDepth 100000
set_option maxHeartbeats 1000000
section
variable {P : Program}
def canRead (P : Program) (ts : List TypeId) : Bool := ts.all fun t => P.readableRec t && decide (t < P.types.size)
theorem args_stay (hl : laidOutB P = true) {H : Type} {enc : TypeId × Value → H} {W W' : World} (hb : Below W.heap.size W W') : ∀ {ts : List TypeId} {vs : List Value} {ds : List (DataW H)} {ps : List MemPlace}, canRead P ts = true → (∀ x ∈ ps, x.block < W.heap.size) →
    DataW.TrodAll enc P W 0 (fun _ => true) true ts vs ds ps → DataW.TrodAll enc P W' 0 (fun b => decide (b < W.heap.size)) true ts vs ds ps
  | [], [], [], _, _, _, h => h
  | t :: ts, v :: vs, d :: ds, ps, hr, hlt, ⟨p, q, h1, h2, hps⟩ => by
    unfold canRead at hr
    simp only [List.all_cons, Bool.and_eq_true, decide_eq_true_eq] at hr
    subst hps
    exact ⟨p, q, Below.trod hl hr.1.1 hr.1.2 h1 hb fun x hx => hlt x (List.mem_append_left _ hx), args_stay hl hb hr.2 (fun x hx => hlt x (List.mem_append_right _ hx)) h2, rfl⟩
  | [], [], _ :: _, _, _, _, h => h.elim
  | [], _ :: _, _, _, _, _, h => h.elim
  | _ :: _, [], _, _, _, _, h => h.elim
  | _ :: _, _ :: _, [], _, _, _, h => h.elim
theorem law_post (hl : laidOutB P = true) {tb : TypeId} (hub : P.underlying tb = some .bool) {H : Type} {enc : TypeId × Value → H} {f : Func} {s : ChangeSpec} {W W' : World} {args : Array Value} {ds : List (DataW H)} {before : List MemPlace} (hv : s.vars = []) (hrt : f.resultTypes = #[tb]) (hc : canRead P f.params.toList = true)
    (hs : (s.fn H (ds ++ [])).results = [.lit (.bool true)] ∧ (s.fn H (ds ++ [])).args = ds ∧ (s.fn H (ds ++ [])).vars = [])
    (hW : DataW.Whole enc P f.params.toList s.vars false W args.toList ds [] before) (hA : DataW.TrodAll enc P W 0 (fun _ => true) true f.params.toList args.toList ds before) (hx : Ext W W') :
    s.post enc P f false true false false W args (.bool true) W' := by
  have hb := hx.below
  refine ⟨ds, [], before, [], before, [], hW, ?_, ?_, ?_, Below.frame hb _, fun h => by cases h⟩
  · rw [hrt, hs.1]
    exact trodAll_cons_mk (shut_bool hub _) trodAll_mk0
  · rw [hs.2.1]
    exact args_stay hl hb hc (fun x hx => hW.lt x hx) hA
  · rw [hs.2.2, hv]; rfl
end
theorem own_knob : ownKnob Tryz.prog.godebug = none := by kernel_rfl
theorem laid_out : laidOutB Tryz.prog = true := by kernel_rfl
theorem bound {H : Type} {l : List (DataW H)} (hk : Rows.uptoSmall H l = true) : Rows.uptoBulkAll l ≤ 1048576 := of_decide_eq_true hk
end Go.Proofs.YtpdkoaklobnegaaGreat
namespace Go.Proofs.YtpdkoaklobnegaaGreat
open Go.Eng Go.ChangeShapes Go.WideShapes Go.ChangeAt Go.RowKit
set_option maxRecDepth 100000
set_option maxHeartbeats 1000000
theorem rt_LRec : RdT 39 (rdL 29 Rec.rd) := rd_slice (by kernel_rfl) (by kernel_rfl) (by decide) rt_Rec
theorem rt_LRng : RdT 38 (rdL 4 (fun _ _ cs (x : Rng) => cs = x.l)) := rd_slice (by kernel_rfl) (by kernel_rfl) (by decide) rt_Rng
theorem rt_errno : RdT 29 rdI := rd_int (by kernel_rfl)
instance : Wt SeenD := ⟨fun x => Wt.wt x.key + Wt.wt x.val + Wt.wt x.stamp + 1, fun _ => by omega⟩
theorem rt_Seen : RdT 266 (fun _ _ cs (x : SeenD) => cs = x.l) := fun H enc W fuel cs x h => by
  obtain ⟨n, ds, hx, hf⟩ := open_struct [9, 51, 35] (by kernel_rfl) h
  obtain ⟨_, _, _, _, a0, rfl, rfl, rfl, w0, hf⟩ := fld_cons rt_str hf
  obtain ⟨_, _, _, _, a1, rfl, rfl, rfl, w1, hf⟩ := fld_cons rt_Val hf
  obtain ⟨_, _, _, _, a2, rfl, rfl, rfl, w2, rfl, rfl⟩ := fld_cons rt_Stamp hf
  refine ⟨⟨a0, a1, a2⟩, rfl, ?_⟩
  rw [hx]; simp only [Rows.uptoBulk, Rows.uptoBulkAll, Wt.wt] at *; omega
theorem rt_LSeen : RdT 37 (rdL 7 (fun _ _ cs (x : SeenD) => cs = x.l)) := rd_slice (by kernel_rfl) (by kernel_rfl) (by decide) rt_Seen
instance : Wt Msg := ⟨fun x => Wt.wt x.kind + Wt.wt x.fr + Wt.wt x.to + Wt.wt x.txn + Wt.wt x.range + Wt.wt x.epoch + Wt.wt x.code + Wt.wt x.stamp + Wt.wt x.prev + Wt.wt x.commit + Wt.wt x.n + Wt.wt x.mx + Wt.wt x.keys + Wt.wt x.seen + Wt.wt x.writes + Wt.wt x.parts + Wt.wt x.ranges + Wt.wt x.recs + Wt.wt x.state + 1, fun _ => by omega⟩
theorem rt_Msg : RdT 48 Msg.rd := fun H enc W fuel cs x h => by
  obtain ⟨n, ds, hx, hf⟩ := open_struct [3, 3, 3, 33, 3, 3, 29, 35, 35, 4, 3, 3, 36, 37, 23, 22, 38, 39, 46] (by kernel_rfl) h
  obtain ⟨_, _, _, _, a0, rfl, rfl, rfl, w0, hf⟩ := fld_cons rt_int hf
  obtain ⟨_, _, _, _, a1, rfl, rfl, rfl, w1, hf⟩ := fld_cons rt_int hf
  obtain ⟨_, _, _, _, a2, rfl, rfl, rfl, w2, hf⟩ := fld_cons rt_int hf
  obtain ⟨_, _, _, _, a3, rfl, rfl, rfl, w3, hf⟩ := fld_cons rt_Txn hf
  obtain ⟨_, _, _, _, a4, rfl, rfl, rfl, w4, hf⟩ := fld_cons rt_int hf
  obtain ⟨_, _, _, _, a5, rfl, rfl, rfl, w5, hf⟩ := fld_cons rt_int hf
  obtain ⟨_, _, _, _, a6, rfl, rfl, rfl, w6, hf⟩ := fld_cons rt_errno hf
  obtain ⟨_, _, _, _, a7, rfl, rfl, rfl, w7, hf⟩ := fld_cons rt_Stamp hf
  obtain ⟨_, _, _, _, a8, rfl, rfl, rfl, w8, hf⟩ := fld_cons rt_Stamp hf
  obtain ⟨_, _, _, _, a9, rfl, rfl, rfl, w9, hf⟩ := fld_cons rt_bool hf
  obtain ⟨_, _, _, _, a10, rfl, rfl, rfl, w10, hf⟩ := fld_cons rt_int hf
  obtain ⟨_, _, _, _, a11, rfl, rfl, rfl, w11, hf⟩ := fld_cons rt_int hf
  obtain ⟨_, _, _, _, a12, rfl, rfl, ⟨v12, rfl, r12⟩, w12, hf⟩ := fld_cons rt_Ls hf
  obtain ⟨_, _, _, _, a13, rfl, rfl, ⟨v13, rfl, r13⟩, w13, hf⟩ := fld_cons rt_LSeen hf
  obtain ⟨_, _, _, _, a14, rfl, rfl, ⟨v14, rfl, r14⟩, w14, hf⟩ := fld_cons rt_LKV hf
  obtain ⟨_, _, _, _, a15, rfl, rfl, ⟨v15, rfl, r15⟩, w15, hf⟩ := fld_cons rt_Li hf
  obtain ⟨_, _, _, _, a16, rfl, rfl, ⟨v16, rfl, r16⟩, w16, hf⟩ := fld_cons rt_LRng hf
  obtain ⟨_, _, _, _, a17, rfl, rfl, ⟨v17, rfl, r17⟩, w17, hf⟩ := fld_cons rt_LRec hf
  obtain ⟨_, _, _, _, a18, rfl, rfl, ⟨vh, vp, rfl, rh, rp⟩, w18, rfl, rfl⟩ := fld_cons rt_State hf
  refine ⟨⟨a0, a1, a2, a3, a4, a5, a6, a7, a8, a9, a10, a11, a12, a13, a14, a15, a16, a17, a18⟩, ⟨v12, v13, v14, v15, v16, v17, vh, vp, rfl, ⟨r12.to_sl, r13.to_sl, r14.to_sl, r15.to_sl, r16.to_sl, r17, rh, rp⟩⟩, ?_⟩
  rw [hx]; simp only [Rows.uptoBulk, Rows.uptoBulkAll, Wt.wt] at *; omega
instance : Wt SOp := ⟨fun x => Wt.wt x.kind + Wt.wt x.n + Wt.wt x.m + Wt.wt x.picks + 1, fun _ => by omega⟩
theorem rt_SOp : RdT 70 SOp.rd := fun H enc W fuel cs x h => by
  obtain ⟨n, ds, hx, hf⟩ := open_struct [3, 3, 48, 22] (by kernel_rfl) h
  obtain ⟨_, _, _, _, a0, rfl, rfl, rfl, w0, hf⟩ := fld_cons rt_int hf
  obtain ⟨_, _, _, _, a1, rfl, rfl, rfl, w1, hf⟩ := fld_cons rt_int hf
  obtain ⟨_, _, _, _, a2, rfl, rfl, ⟨vk, vs, vw, vp, vr, vc, vh, vd, rfl, r2⟩, w2, hf⟩ := fld_cons rt_Msg hf
  obtain ⟨_, _, _, _, a3, rfl, rfl, ⟨v3, rfl, r3⟩, w3, rfl, rfl⟩ := fld_cons rt_Li hf
  refine ⟨⟨a0, a1, a2, a3⟩, ⟨vk, vs, vw, vp, vr, vc, vh, vd, v3, rfl, ⟨r2, r3.to_sl⟩⟩, ?_⟩
  rw [hx]; simp only [Rows.uptoBulk, Rows.uptoBulkAll, Wt.wt] at *; omega
theorem rt_LSOp : RdT 66 (rdL 39 SOp.rd) := rd_slice (by kernel_rfl) (by kernel_rfl) (by decide) rt_SOp
theorem text_le {s : BA} {B : Nat} (h : Wt.wt s ≤ B) : s.size ≤ B := by
  have : s.size + 1 ≤ B := h
  omega
theorem kv_le {x : KV} {B : Nat} (h : Wt.wt x ≤ B) : x.key.size ≤ B ∧ x.val.text.size ≤ B := by
  have : (x.key.size + 1) + (Wt.wt x.val.kind + Wt.wt x.val.num + (x.val.text.size + 1) + 1) + 1 ≤ B := h
  omega
theorem kvs_text {l : List KV} {B : Nat} (h : Wt.wt l ≤ B) (hB : B ≤ 2 ^ 40) : KText l := fun x hx => by
  have h' : (l.map Wt.wt).sum + 1 ≤ B := h
  have := kv_le (B := B) (Nat.le_trans (wt_mem hx) (by omega))
  omega
theorem texts_le {l : List BA} {B : Nat} (h : Wt.wt l ≤ B) (hB : B ≤ 2 ^ 40) : ∀ k ∈ l, k.size ≤ 2 ^ 40 := fun x hx => by
  have h' : (l.map Wt.wt).sum + 1 ≤ B := h
  have := text_le (B := B) (Nat.le_trans (wt_mem hx) (by omega))
  omega
theorem len_le {α : Type} [Wt α] {l : List α} {B : Nat} (h : Wt.wt l ≤ B) : l.length ≤ B := by
  have h' : (l.map Wt.wt).sum + 1 ≤ B := h
  have := wt_len l
  omega
theorem pend_le {l : List Pend} {B : Nat} (h : Wt.wt l ≤ B) (hB : B ≤ 2 ^ 40) : PText l ∧ PSmall l ∧ PKeys l := by
  have h' : (l.map Wt.wt).sum + 1 ≤ B := h
  have key : ∀ p ∈ l, Wt.wt p.reads ≤ B ∧ Wt.wt p.writes ≤ B := fun p hp => by
    have h1 : Wt.wt p.txn + Wt.wt p.stamp + Wt.wt p.reads + Wt.wt p.writes + 1 ≤ (l.map Wt.wt).sum := wt_mem hp
    omega
  refine ⟨fun p hp => ⟨texts_le (key p hp).1 hB, kvs_text (key p hp).2 hB⟩, fun p hp => ?_, fun p hp => ⟨texts_le (key p hp).1 hB, fun x hx => (kvs_text (key p hp).2 hB x hx).1⟩⟩
  have h1 := len_le (key p hp).1
  have h2 := len_le (key p hp).2
  omega
theorem hist_le {l : List Hist} {B : Nat} (h : Wt.wt l ≤ B) (hB : B ≤ 2 ^ 40) : HText l ∧ HSmall l ∧ HKeys l := by
  have h' : (l.map Wt.wt).sum + 1 ≤ B := h
  have key : ∀ p ∈ l, Wt.wt p.key ≤ B ∧ Wt.wt p.vers ≤ B := fun p hp => by
    have h1 : Wt.wt p.key + Wt.wt p.vers + 1 ≤ (l.map Wt.wt).sum := wt_mem hp
    omega
  refine ⟨fun p hp => ⟨Nat.le_trans (text_le (key p hp).1) hB, fun v hv => ?_⟩, fun p hp => Nat.le_trans (len_le (key p hp).2) hB, fun p hp => Nat.le_trans (text_le (key p hp).1) hB⟩
  have h1 : (p.vers.map Wt.wt).sum + 1 ≤ B := (key p hp).2
  have h2 : Wt.wt v.stamp + (Wt.wt v.val.kind + Wt.wt v.val.num + (v.val.text.size + 1) + 1) + 1 ≤ (p.vers.map Wt.wt).sum := wt_mem hv
  omega
theorem state_le {s : State} {B : Nat} (h : Wt.wt s ≤ B) (hB : B ≤ 2 ^ 40) : s.small ∧ HText s.hists ∧ PText s.pend := by
  have h' : Wt.wt s.range + Wt.wt s.floor + Wt.wt s.closed + Wt.wt s.hists + Wt.wt s.pend + 1 ≤ B := h
  obtain ⟨a1, a2, a3⟩ := hist_le (l := s.hists) (B := B) (by omega) hB
  obtain ⟨b1, b2, b3⟩ := pend_le (l := s.pend) (B := B) (by omega) hB
  exact ⟨⟨a2, b2, a3, b3⟩, a1, b1⟩
theorem rec_le {r : Rec} {B : Nat} (h : Wt.wt r ≤ B) (hB : B ≤ 2 ^ 40) : r.small ∧ r.text := by
  have h' : Wt.wt r.kind + Wt.wt r.txn + Wt.wt r.stamp + Wt.wt r.prev + Wt.wt r.commit + Wt.wt r.n + Wt.wt r.point + Wt.wt r.reads + Wt.wt r.writes + Wt.wt r.parts + Wt.wt r.pairs + Wt.wt r.state + 1 ≤ B := h
  obtain ⟨a1, a2, a3⟩ := state_le (s := r.state) (B := B) (by omega) hB
  have h1 := len_le (l := r.reads) (B := B) (by omega)
  have h2 := len_le (l := r.writes) (B := B) (by omega)
  have h3 := kvs_text (l := r.writes) (B := B) (by omega) hB
  have h4 := texts_le (l := r.reads) (B := B) (by omega) hB
  exact ⟨⟨by omega, by omega, h4, fun x hx => (h3 x hx).1, a1⟩, ⟨h4, h3, kvs_text (l := r.pairs) (B := B) (by omega) hB, a2, a3⟩⟩
theorem encT_wt (s : BA) : (encT s).length ≤ 120 * Wt.wt s := by
  have h1 := encT_len s
  have h2 := encI_len s.size
  show _ ≤ 120 * (s.size + 1)
  omega
theorem encKV_wt (x : KV) : (encKV x).length ≤ 120 * Wt.wt x := by
  have h1 := encT_wt x.key
  have h2 := encV_len (v := x.val)
  have h3 : Wt.wt x = Wt.wt x.key + Wt.wt x.val + 1 := rfl
  unfold encKV
  rw [List.length_append]; omega
theorem encL_wt {α : Type} [Wt α] {f : α → List Nat} (l : List α) (h : ∀ x, (f x).length ≤ 120 * Wt.wt x) : (encL f l).length ≤ 120 * Wt.wt l := by
  have h1 : (l.map f).flatten.length ≤ 120 * (l.map Wt.wt).sum := by
    induction l with
    | nil => simp
    | cons x l ih => have := h x; simp only [List.map_cons, List.flatten_cons, List.length_append, List.sum_cons]; omega
  have h2 := encI_len (l.length : Int)
  have h3 : Wt.wt l = (l.map Wt.wt).sum + 1 := rfl
  unfold encL
  rw [List.length_append]; omega
theorem encI_wt (n : Int) : (encI n).length ≤ 120 * Wt.wt n := by
  have := encI_len n
  show _ ≤ 120 * 1
  omega
theorem encVer_wt (v : Ver) : (encVer v).length ≤ 120 * Wt.wt v := by
  have h1 := encSt_len v.stamp
  have h2 := encV_len (v := v.val)
  have h3 : Wt.wt v = 4 + Wt.wt v.val + 1 := rfl
  unfold encVer
  rw [List.length_append]; omega
theorem encH_wt (h : Hist) : (encH h).length ≤ 120 * Wt.wt h := by
  have h1 := encT_wt h.key
  have h2 := encL_wt h.vers encVer_wt
  have h3 : Wt.wt h = Wt.wt h.key + Wt.wt h.vers + 1 := rfl
  unfold encH
  rw [List.length_append]; omega
theorem encP_wt (p : Pend) : (encP p).length ≤ 120 * Wt.wt p := by
  have h1 := encTx_len p.txn
  have h2 := encSt_len p.stamp
  have h3 := encL_wt p.reads encT_wt
  have h4 := encL_wt p.writes encKV_wt
  have h5 : Wt.wt p = 4 + 4 + Wt.wt p.reads + Wt.wt p.writes + 1 := rfl
  unfold encP
  simp only [List.length_append]; omega
theorem encS_wt (s : State) : (encS s).length ≤ 120 * Wt.wt s := by
  have h1 := encI_len s.range.id
  have h2 := encI_len s.range.epoch
  have h3 := encSt_len s.floor
  have h4 := encSt_len s.closed
  have h5 := encL_wt s.hists encH_wt
  have h6 := encL_wt s.pend encP_wt
  have h7 : Wt.wt s = Wt.wt s.range + 4 + 4 + Wt.wt s.hists + Wt.wt s.pend + 1 := rfl
  unfold encS encRg
  simp only [List.length_append, encF_len]; omega
theorem encR_wt (r : Rec) : (encR r).length ≤ 120 * Wt.wt r := by
  have h' : Wt.wt r = Wt.wt r.kind + 4 + 4 + 4 + Wt.wt r.commit + Wt.wt r.n + Wt.wt r.point + Wt.wt r.reads + Wt.wt r.writes + Wt.wt r.parts + Wt.wt r.pairs + Wt.wt r.state + 1 := rfl
  have k1 := encI_len r.kind
  have k2 := encS_wt r.state
  have k3 := encI_len r.n
  have k4 := encTx_len r.txn
  have k5 := encSt_len r.stamp
  have k6 := encSt_len r.prev
  have k7 := encL_wt r.reads encT_wt
  have k8 := encL_wt r.writes encKV_wt
  have k9 := encL_wt r.pairs encKV_wt
  have k10 := encL_wt r.parts encI_wt
  have k11 := encF_len r.point
  have k12 : (encB r.commit).length = 1 := rfl
  unfold encR
  rw [List.length_append]
  repeat' split
  all_goals (try unfold encP); (try simp only [List.length_append, List.length_nil]); omega
theorem msg_le {m : Msg} {B : Nat} (h : Wt.wt m ≤ B) (hB : B ≤ 2 ^ 25) : m.text ∧ m.small ∧ m.lens ≤ 2 ^ 40 := by
  have h' : Wt.wt m.kind + Wt.wt m.fr + Wt.wt m.to + Wt.wt m.txn + Wt.wt m.range + Wt.wt m.epoch + Wt.wt m.code + Wt.wt m.stamp + Wt.wt m.prev + Wt.wt m.commit + Wt.wt m.n + Wt.wt m.mx + Wt.wt m.keys + Wt.wt m.seen + Wt.wt m.writes + Wt.wt m.parts + Wt.wt m.ranges + Wt.wt m.recs + Wt.wt m.state + 1 ≤ B := h
  have hB' : B ≤ 2 ^ 40 := by omega
  obtain ⟨a1, a2, a3⟩ := state_le (s := m.state) (B := B) (by omega) hB'
  have l1 := len_le (l := m.keys) (B := B) (by omega)
  have l2 := len_le (l := m.seen) (B := B) (by omega)
  have l3 := len_le (l := m.writes) (B := B) (by omega)
  have l4 := len_le (l := m.parts) (B := B) (by omega)
  have l5 := len_le (l := m.ranges) (B := B) (by omega)
  have l6 := len_le (l := m.recs) (B := B) (by omega)
  have hr : ∀ r ∈ m.recs, Wt.wt r ≤ B := fun r hr => by
    have h1 : Wt.wt m.recs = (m.recs.map Wt.wt).sum + 1 := rfl
    have := wt_mem hr
    omega
  refine ⟨⟨texts_le (l := m.keys) (B := B) (by omega) hB', fun x hx => ?_, kvs_text (l := m.writes) (B := B) (by omega) hB', fun r h => (rec_le (hr r h) hB').2, a2, a3⟩, ⟨by omega, by omega, fun r h => (rec_le (hr r h) hB').1, fun r h _ => ?_, a1⟩, ?_⟩
  · have h1 : Wt.wt m.seen = (m.seen.map Wt.wt).sum + 1 := rfl
    have h2 : (x.key.size + 1) + (Wt.wt x.val.kind + Wt.wt x.val.num + (x.val.text.size + 1) + 1) + 4 + 1 ≤ (m.seen.map Wt.wt).sum := wt_mem hx
    omega
  · have := encR_wt r
    have := hr r h
    omega
  · unfold Msg.lens; omega
end Go.Proofs.YtpdkoaklobnegaaGreat
namespace Go.Proofs.YtpdkoaklobnegaaGreat
open Go.Eng Go.ChangeShapes Go.WideShapes Go.ChangeAt Go.RowKit
set_option maxRecDepth 100000
set_option maxHeartbeats 1000000
namespace sinkGets
theorem contract (H : Type) (enc : TypeId × Value → H) (W : World) (base : Nat) (args : Array Value) (ds gs : List (DataW H)) (before : List MemPlace)
    (hval : ∀ (j : Nat) t v, Tryz.f4.params[j]? = some t → args[j]? = some v → Value.okWide Tryz.prog W .any base t v)
    (hW : DataW.Whole enc Tryz.prog Tryz.f4.params.toList Rows.sinkGetsSpec.vars false W args.toList ds gs before) (hk : Rows.uptoSmall H (ds ++ gs) = true) :
    Calls Tryz.prog 4 args W fun e W' => ∃ v, e = .returned v ∧ Rows.sinkGetsSpec.post enc Tryz.prog Tryz.f4 false true false false W args v W' := by
  have hW' := hW
  obtain ⟨p, q, hA0, hV, rfl, hfz, hnd⟩ := hW
  have hA : DataW.TrodAll enc Tryz.prog W 0 (fun _ => true) true Tryz.f4.params.toList args.toList ds p := hA0
  rw [Tryz.params4] at hA hval
  obtain ⟨v0, vs0, d0, ds0, p0, q0, hargs, rfl, rfl, h0, r0⟩ := trodAll_cons hA
  obtain ⟨v1, vs1, d1, ds1, p1, q1, rfl, rfl, rfl, h1, r1⟩ := trodAll_cons r0
  obtain ⟨rfl, rfl, rfl⟩ := trodAll_nil r1
  obtain rfl : args = #[v0, v1] := by cases args; simp_all
  obtain ⟨rfl, rfl⟩ := trodVars_none hV
  obtain ⟨b0, n0, c0, rfl⟩ := okWide_slice Tryz.underlying66 (hval 0 66 v0 rfl rfl)
  obtain ⟨b1, n1, c1, rfl⟩ := okWide_slice Tryz.underlying36 (hval 1 36 v1 rfl rfl)
  obtain ⟨f0, hf0⟩ := h0
  obtain ⟨f1, hf1⟩ := h1
  obtain ⟨x0, ⟨u0, hu0, r0'⟩, wt0⟩ := rt_LSOp H enc W f0 _ _ hf0
  obtain ⟨x1, ⟨u1, hu1, r1'⟩, wt1⟩ := rt_Ls H enc W f1 _ _ hf1
  obtain rfl : u0 = .slice b0 n0 c0 := by simpa [Value.cells] using hu0.symm
  obtain rfl : u1 = .slice b1 n1 c1 := by simpa [Value.cells] using hu1.symm
  have hb := bound hk
  simp only [List.append_nil, Rows.uptoBulkAll] at hb hW'
  have hw0 : (x0.map Wt.wt).sum + 1 ≤ Rows.uptoBulk d0 := wt0
  refine (d_law_SinkGets (X := old W) r0' r1'.to_sl (fun o ho => ?_) W (Kp.refl _ _)).mono fun e W' ⟨v, he, hfr, hq⟩ => ?_
  · have h3 := wt_mem ho
    have h4 : Wt.wt o.kind + Wt.wt o.n + Wt.wt o.m + Wt.wt o.picks + 1 ≤ (x0.map Wt.wt).sum := h3
    exact msg_le (B := 1048576) (by omega) (by decide)
  subst he
  subst hq
  exact ⟨_, rfl, law_post laid_out Tryz.underlying4 rfl rfl (by kernel_rfl) ⟨rfl, rfl, rfl⟩ hW' (by rw [List.append_nil] at *; exact hA0) hfr⟩
theorem lifted (os : Os) (started : os.Started) (H : Type) (enc : TypeId × Value → H) (F : Stop.Interp) :
    ReturnsInHanded {} Tryz.checked os 4 .any ((Rows.OpenSpec.upto Rows.sinkGetsSpec).pre6 enc Tryz.prog Tryz.f4 Rows.sinkGetsUptoRow.domain false) (((Rows.OpenSpec.upto Rows.sinkGetsSpec).at F).post enc Tryz.prog Tryz.f4 false true false false) := by
  refine returnsInHanded_of_cond (C := Tryz.checked) (s := Rows.OpenSpec.upto Rows.sinkGetsSpec) (k := Rows.uptoSmall) rfl own_knob started (by kernel_rfl) Tryz.func4
    (OpenSpec.witness (enc := enc) (C := Tryz.checked) (s := Rows.OpenSpec.upto Rows.sinkGetsSpec) (k := Rows.uptoSmall) rfl false ⟨#[], #[.slice none 0 0, .slice none 0 0], []⟩ 8 (by kernel_rfl) (by kernel_rfl) (by kernel_rfl)
      (x := ([.nil, .nil], [], [])) (by kernel_rfl) rfl (by kernel_rfl)) ?_
  intro W base args ds gs before hval hW _ hk _
  exact contract H enc W base args ds gs before hval hW hk
theorem j_unf : ((Rows.sinkGetsUptoRow).unfollowed == Tryz.prog.unfollowed 4) = true := by kernel_rfl
theorem j_rec : ((Rows.sinkGetsUptoRow).recurses == Tryz.prog.recurses 4) = true := by kernel_rfl
theorem j_inPlace : ((Rows.sinkGetsUptoRow).inPlace == Tryz.prog.inPlace 4) = true := by kernel_rfl
theorem j_named : ((Rows.sinkGetsUptoRow).named == Tryz.prog.varsNamed 4) = true := by kernel_rfl
theorem j_mapsRowed : mapsRowed Tryz.prog = true := by kernel_rfl
theorem j_stops : (Tryz.prog.stops == []) = true := by kernel_rfl
theorem j_knobs : (Tryz.prog.stopKnobs == []) = true := by kernel_rfl
theorem j_heard : Tryz.prog.stopsHeard = true := by kernel_rfl
theorem j_may : Tryz.prog.mayEnter = true := by kernel_rfl
theorem j_keys : ((Rows.sinkGetsUptoRow).plainKeys == Tryz.prog.plainKeys) = true := by kernel_rfl
theorem j_lifted : ((Rows.sinkGetsUptoRow).lifted == Tryz.prog.liftsFinal) = true := by kernel_rfl
theorem j_make : (Tryz.prog.make == some (Rows.sinkGetsUptoRow).make) = true := by kernel_rfl
theorem joined : joinedFacts Tryz.prog 4 Tryz.f4 (Rows.OpenSpec.upto Rows.sinkGetsSpec).bare Rows.sinkGetsUptoRow = true := by
  unfold joinedFacts
  simp only [Bool.and_eq_true]
  and_intros <;> first | with_reducible exact laid_out | with_reducible exact j_unf | with_reducible exact j_rec | with_reducible exact j_inPlace | with_reducible exact j_named | with_reducible exact j_mapsRowed | with_reducible exact j_stops | with_reducible exact j_knobs | with_reducible exact j_heard | with_reducible exact j_may | with_reducible exact j_keys | with_reducible exact j_lifted | with_reducible exact j_make | kernel_rfl
theorem proved : Rows.SinkGetsUptoSaid :=
  OpenClaim.holds_of_cond 4 Tryz.f4 rfl rfl rfl rfl rfl rfl rfl ⟨rfl, rfl, rfl, rfl, rfl⟩ rfl rfl rfl rfl rfl (by kernel_rfl) Tryz.func4 joined
    (of_decide_eq_true (by kernel_rfl)) (by unfold Func.isWrapper; first | (rw [if_pos (by decide +kernel)]; kernel_rfl) | (rw [if_neg (by decide +kernel)]; exact ⟨rfl, rfl⟩))
    (fun os started H enc _ F => lifted os started H enc F)
end sinkGets
end Go.Proofs.YtpdkoaklobnegaaGreat
