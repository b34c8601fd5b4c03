/-
  racelaw18.TailPlays returns true, whatever it is called with, where what it reads is of bulk at most 1048576; the input reads as it did.
-/
import Derived.Test.YtnphlhpdikmpiaaGreatH10
namespace Go.Proofs.YtnphlhpdikmpiaaGreat
open Go.Eng
set_option maxRecDepth 100000
set_option maxHeartbeats 1000000
set_option linter.unusedVariables false
set_option linter.unusedSimpArgs false
attribute [local irreducible] un jn chk fld ld1 ldA st1 ixS lnS lnT bld cvI cvF ixA bsS apS rdV rdW grdW eW eV eU eC eF gE condW fin pickN nilN binS vS lp0 lp1 lp2 lp3 lp4 lp5 lp6 lp7 nx0 nx1 nx2 nx3 nx4 nx5 nx6 nx7
def cutO (pt : Nat) (x : Pend × Int) : Pend × Int := (⟨x.1.txn, x.1.stamp, x.1.reads.filter (below pt), x.1.writes.filter fun y => below pt y.key⟩, x.2)
def feedO (n : Int) (r : Rec) (l : OC) : OC :=
  if r.kind = 1 then r.state.pend.foldl (fun l p => insO (p, n) l) l
  else if r.kind = 3 then insO (⟨r.txn, r.stamp, r.reads, r.writes⟩, n) l
  else if r.kind = 4 then decO r l
  else if r.kind = 6 then l.map (cutO r.point) else l
def toldO (s : TailS) (r : Rec) (l : OC) : ToldS :=
  if r.kind = 4 then decT s r l
  else if r.kind = 6 then ⟨2, 0, 0, ⟨0, 0, 0⟩, .zero, [], r.n, resO (s.closed.later r.stamp) (l.map (cutO r.point))⟩ else .none
def FeedR (A : XS) (sb : Nat) (vo : Value) (s : TailS) (zs : List OV) (n : Int) (r : Rec) (v : Value) (wa w' : World) : Prop :=
  if refO s (oc zs) n r ≠ 0 then v = .tuple #[ToldS.none.v (.slice none 0 0), I (refO s (oc zs) n r)] ∧ RTl w' (fun k => k = sb ∨ A k ∨ vo.ownBlock = some k ∨ wa.heap.size ≤ k) A sb vo s zs
  else ∃ vw' vo' zs' A', v = .tuple #[(toldO s r (oc zs)).v vw', I 0] ∧ Sl w' (fun k => A k ∨ wa.heap.size ≤ k) 4 vw' ((toldO s r (oc zs)).writes.map KV.l) ∧
    oc zs' = feedO n r (oc zs) ∧ (∀ k, A' k → A k ∨ wa.heap.size ≤ k) ∧ RTl w' (fun k => k = sb ∨ A k ∨ vo.ownBlock = some k ∨ wa.heap.size ≤ k) A' sb vo' (feedS s r) zs'
theorem RTl.head {w w' : World} {X X' A : XS} {sb : Nat} {vo : Value} {s s' : TailS} {zs : List OV} (h : RTl w X A sb vo s zs) (hc : Chg (fun k => k = sb) X w X' w') (hr : RowIs w' X' sb (s'.l vo) 37) : RTl w' X' A sb vo s' zs :=
  ⟨hr, h.ow.chg hc fun g hg e => h.sep g hg e, fun z hz => (h.zin z hz).mv fun k hk hl => ⟨hk, hc.block k (h.sub k hk).1 (h.sub k hk).2.2.1⟩,
    fun k hk => ⟨hc.sub k (h.sub k hk).1, Nat.lt_of_lt_of_le (h.sub k hk).2.1 hc.size, (h.sub k hk).2.2⟩, h.sep⟩
theorem RTl.wide {w : World} {X Y A : XS} {sb : Nat} {vo : Value} {s : TailS} {zs : List OV} (h : RTl w X A sb vo s zs) (hs : ∀ k, X k → Y k) : RTl w Y A sb vo s zs :=
  h.to (hs _ h.box.1) (fun k hk => hs k (h.sub k hk).1) fun g hg => hs g (h.ow.2.2 g hg)
theorem m_rtNext {w : World} {X A : XS} {sb : Nat} {vo : Value} {s : TailS} {zs : List OV} {R : Ending → World → Prop} {N : Value → World → XS → Prop} {z : Int} {o : Nat} (hT : RTl w X A sb vo s zs) (ho : o = 0 + 1) (hX : ∀ k, X k → k < w.heap.size)
    (n : ∀ w' X', Chg (fun k => k = sb) X w X' w' → RTl w' X' A sb vo { s with next := z } zs → N undef w' X') : eU Tryz.prog R X w true (st1 3 1 (ptr sb o) (I z)) N := by
  subst ho
  exact m_st1 hT.box (by kernel_rfl) (by simp) rfl rfl hX fun w2 X2 hc hr => n w2 X2 hc (hT.head (s' := { s with next := z }) hc hr)
theorem m_rtClosed {w : World} {X A : XS} {sb : Nat} {vo : Value} {s : TailS} {zs : List OV} {R : Ending → World → Prop} {N : Value → World → XS → Prop} {c : Stamp} {o : Nat} (hT : RTl w X A sb vo s zs) (ho : o = 0 + 2) (hX : ∀ k, X k → k < w.heap.size)
    (n : ∀ w' X', Chg (fun k => k = sb) X w X' w' → RTl w' X' A sb vo { s with closed := c } zs → N undef w' X') : eU Tryz.prog R X w true (st1 34 3 (ptr sb o) c.v) N := by
  subst ho
  exact m_st1 hT.box (by kernel_rfl) (by simp) rfl rfl hX fun w2 X2 hc hr => n w2 X2 hc (hT.head (s' := { s with closed := c }) hc hr)
theorem insO_len (x : Pend × Int) (l : OC) : (insO x l).length = l.length + 1 := by
  have := congrArg List.length (List.takeWhile_append_dropWhile (p := fun q : Pend × Int => q.1.txn.less x.1.txn) (l := l))
  rw [List.length_append] at this
  unfold insO
  rw [List.length_append, List.length_cons]; omega
theorem RTl.set {w w' : World} {X X' A A' : XS} {sb g i : Nat} {vo : Value} {s : TailS} {zs : List OV} {z' : OV} (h : RTl w X A sb vo s zs) (hg : vo.ownBlock = some g) (hc : Chg (fun k => k = g) X w X' w')
    (ho : Own w' X' 0 98 9 vo ((zs.set i z').map OV.l)) (hA : ∀ k, A k → A' k) (hz : z'.1.in w' A') (hsub : ∀ k, A' k → A k ∨ (X' k ∧ k < w'.heap.size ∧ k ≠ sb ∧ vo.ownBlock ≠ some k)) : RTl w' X' A' sb vo s (zs.set i z') := by
  have hgs := h.sep g hg
  refine ⟨⟨hc.sub _ h.box.1, by rw [hc.block sb h.box.1 (Ne.symm hgs)]; exact h.box.2⟩, ho, fun z hz' => ?_, fun k hk => ?_, h.sep⟩
  · rcases List.mem_or_eq_of_mem_set hz' with hz' | rfl
    · exact (h.zin z hz').mv fun k hk hl => ⟨hA k hk, hc.block k (h.sub k hk).1 fun e => (h.sub k hk).2.2.2 (by rw [e]; exact hg)⟩
    · exact hz
  · rcases hsub k hk with hk | hk
    · exact ⟨hc.sub k (h.sub k hk).1, Nat.lt_of_lt_of_le (h.sub k hk).2.1 hc.size, (h.sub k hk).2.2⟩
    · exact hk
theorem Own.cell {w : World} {X : XS} {lo e k g n cap i : Nat} {rows : List (List Value)} {r : List Value} (h : Own w X lo e k (.slice (some ⟨g, 0, none⟩) n cap) rows) (hr : rows[i]? = some r) : Cells w X g (i * k) r := by
  obtain ⟨h1, _, base, cap', hv, hc, _⟩ := h.sl
  cases hv
  obtain ⟨b, o, hb, hcs⟩ := hc (by intro e; rw [e] at hr; simp at hr)
  cases hb
  have hp := hcs.part (i * k) k
  rw [flatten_part h1 hr] at hp
  simpa using hp
theorem set_mid {α : Type} {l a b : List α} {x y : α} {i : Nat} (h : l = a ++ x :: b) (hi : a.length = i) : l.set i y = a ++ y :: b := by
  subst h; subst hi; simp
def fo (sb : Nat) (vo : Value) : XS := fun k => k = sb ∨ vo.ownBlock = some k
theorem d_ref18_Feed {w : World} {X A Z : XS} {sb : Nat} {vo : Value} {s : TailS} {zs : List OV} {n : Int} {r : Rec} {vr vw vp vq vh vd : Value} (h : RTl w X A sb vo s zs)
    (ha : r.at w Z vr vw vp vq vh vd) (hZ : ∀ k, Z k → X k ∧ ¬ fo sb vo k) (hf : r.fit) (hzl : zs.length ≤ 2 ^ 38) (hnx : 1 ≤ s.next) (hok : ∀ z ∈ zs, z.1.p.ok) :
    Ct Tryz.prog 11 #[ptr sb 0, I n, r.v vr vw vp vq vh vd] w X (fo sb vo) fun v wa w' => FeedR A sb vo s zs n r v wa w' := by
  intro w0 hk
  have hao := ha.mv (Mv.trans (Y := out (fo sb vo) w0) (w' := w0) (fun k hk' hl => ⟨⟨Nat.lt_of_lt_of_le hl hk.size, (hZ k hk').2⟩, hk.block k (hZ k hk').1⟩) (Mv.refl _ _))
  replace h := h.mv hk.mvo hk.size
  replace ha := ha.mv ((Mv.sub fun k hk' => (hZ k hk').1).trans hk.mvo)
  have h1 := hao.1
  have h2 := hao.2.1
  have h6 := hao.2.2.2.2.2
  have hl6 := h6.len
  have hsm := hf.f.sm
  obtain ⟨br, nr, cr, rfl⟩ := h1.form
  obtain ⟨bw, nw, cw, rfl⟩ := h2.form
  apply ok_raceref18_Tail_Feed; unfold vc_raceref18_Tail_Feed
  have hs := Since.out (fo sb vo) w0
  refine r_ct0V (d_ref18_refuses (r := r) (n := n) h ha hf) (by kernel_rfl) hs.has fun w X hs1 => ?_
  replace hs := hs.trans hs1
  have hT := h.mv hs1.mv hs1.kp.size
  have hbox := hT.box
  repeat' first | with_reducible (first | apply condW_T | apply condW_F) | ((with_reducible apply m_sub); (· (simp only [Value.cells, nq1, nq2, nq3, nq4, nq5, nq6, setL, nq7, nq8, nq9, nq0, Nat.reduceAdd, Nat.zero_add]; try rfl))) | with_reducible (first | apply un_box | apply r_nil) | (with_reducible apply r_neq <;> intro _) | ((with_reducible apply m_fld1); (· (first | assumption | exact RowIs.cells (by assumption))); (· kernel_rfl); (· rfl); intro _ _ _) | ((with_reducible apply m_ld1); (· (first | assumption | exact RowIs.cells (by assumption))); (· (first | exact mv0 | exact mv1 (by assumption) | exact mv2 (by assumption) (by assumption))); (· kernel_rfl); (· rfl)) | ((with_reducible apply r_bld); (· kernel_rfl)) | ((with_reducible apply m_chkc); (case h => (repeat' first | with_reducible apply all_one_cons | with_reducible exact all_one_nil | assumption | rfl | exact Sl.one (by assumption) | exact Rws.one (by assumption) | exact Sl.one (Own.sl (by assumption))))) | ((with_reducible apply chk_T); (· first | rfl | assumption | exact Sl.one (by assumption) | exact Rws.one (by assumption) | exact Sl.one (Own.sl (by assumption))))
  · refine fin_ret hs fun wa hk => ?_
    show FeedR A sb vo s zs n r _ w0 wa
    unfold FeedR
    rw [if_pos (by assumption)]
    exact ⟨rfl, (hT.kp hk).to (.inl rfl) (fun k hk => .inr (.inl hk)) fun g hg => .inr (.inr (.inl hg))⟩
  · have hm0 : refO s (oc zs) n r = 0 := by assumption
    have hns : n = s.next ∧ n ≤ 99999999 := by
      have := hm0
      unfold refO at this
      split at this
      · omega
      · omega
    obtain ⟨hns, hn9⟩ := hns
    have hend : ∀ (v : Value) (wa : World) (vw' vo' : Value) (zs' : List OV) (A' : XS), v = .tuple #[(toldO s r (oc zs)).v vw', I 0] → Sl wa (fun k => A k ∨ w0.heap.size ≤ k) 4 vw' ((toldO s r (oc zs)).writes.map KV.l) →
        oc zs' = feedO n r (oc zs) → (∀ k, A' k → A k ∨ w0.heap.size ≤ k) → RTl wa (fun k => k = sb ∨ A k ∨ vo.ownBlock = some k ∨ w0.heap.size ≤ k) A' sb vo' (feedS s r) zs' → FeedR A sb vo s zs n r v w0 wa := by
      intro v wa vw' vo' zs' A' q1 q2 q3 q4 q5
      unfold FeedR
      rw [if_neg (by simpa using hm0)]
      exact ⟨vw', vo', zs', A', q1, q2, q3, q4, q5⟩
    generalize FeedR A sb vo s zs n r = Q at hend ⊢
    repeat' first | with_reducible apply r_nil | ((with_reducible apply m_fld1); (· (first | assumption | exact RowIs.cells (by assumption))); (· kernel_rfl); (· rfl); intro _ _ _) | ((with_reducible apply r_add); (· omega); (· omega))
    refine m_rtNext hT (by assumption) hs.has fun w2 X2 hc hT2 => ?_
    replace hs := hs.chg hc fun k hk e => hk.2 (.inl e)
    have hsz := hs.kp.size
    clear hbox hc hs1 hT
    have hbox := hT2.box
    refine jn_by (fun k => ∀ w X vo' zs' A', Since (out (fo sb vo) w0) w0 X w → RTl w X A' sb vo' (feedS s r) zs' → oc zs' = feedO n r (oc zs) → (∀ k, A' k → A k ∨ w0.heap.size ≤ k) → (∀ g, vo'.ownBlock = some g → vo.ownBlock = some g ∨ w0.heap.size ≤ g) → toldO s r (oc zs) = .none → k w X) ?_ ?_
    · intro w X vo' zs' A' hs hT hc hA' hv' ht
      repeat' first | ((with_reducible apply m_sub); (· (simp only [Value.cells, nq1, nq2, nq3, nq4, nq5, nq6, setL, nq7, nq8, nq9, nq0, Nat.reduceAdd, Nat.zero_add]; try rfl))) | with_reducible apply un_box | ((with_reducible apply r_bld); (· kernel_rfl)) | ((with_reducible apply m_chkc); (case h => (repeat' first | with_reducible apply all_one_cons | with_reducible exact all_one_nil | assumption | rfl | exact Sl.one (by assumption) | exact Rws.one (by assumption) | exact Sl.one (Own.sl (by assumption))))) | ((with_reducible apply chk_T); (· first | rfl | assumption | exact Sl.one (by assumption) | exact Rws.one (by assumption) | exact Sl.one (Own.sl (by assumption))))
      refine fin_ret hs fun wa hk => hend _ wa (.slice none 0 0) vo' zs' A' ?_ ?_ hc hA' ((hT.kp hk).to (.inl rfl) (fun k hk => ?_) fun g hg => ?_)
      · rw [ht]; rfl
      · rw [ht]; exact Sl.nil _ _ _
      · rcases hA' k hk with h | h
        · exact .inr (.inl h)
        · exact .inr (.inr (.inr h))
      · rcases hv' g hg with h | h
        · exact .inr (.inr (.inl h))
        · exact .inr (.inr (.inr h))
    have hX2 := hs.has
    intro K hK
    repeat' first | with_reducible (first | apply condW_T | apply condW_F | apply r_nil) | (with_reducible apply r_eql <;> intro _) | ((with_reducible apply m_fld); (· (first | assumption | exact RowIs.cells (by assumption))); (· kernel_rfl); (· rfl); (· (simp only [Value.cells, nq1, nq2, nq3, nq4, nq5, nq6, setL, nq7, nq8, nq9, nq0, Nat.reduceAdd, Nat.zero_add]; try rfl)); intro _ _ _) | ((with_reducible apply m_ldA); (· (first | assumption | exact RowIs.cells (by assumption))); (· (first | exact mv0 | exact mv1 (by assumption) | exact mv2 (by assumption) (by assumption))); (· kernel_rfl); (· rfl)) | ((with_reducible apply r_bld); (· kernel_rfl)) | ((with_reducible refine r_pure (c_ref8_Later _ _) ?_ hs.has ?_); (· kernel_rfl); intro w X hs1; replace hs := hs.trans hs1)
    · have hk1 := ‹r.kind = 1›
      refine m_rtClosed (c := s.closed.later r.state.closed) (hT2.mv hs1.mv hs1.kp.size) (by assumption) hs.has fun w3 X3 hc3 hT3 => ?_
      clear hbox hT2 hs1
      have hbox := hT3.box
      replace hs := hs.chg hc3 fun k hk e => hk.2 (.inl e)
      skip
      refine lp1_of (fun n' a w X => ∃ (i : Nat) (voi : Value) (zsi : List OV) (Ai : XS), a = I (i : Nat) ∧ n' = r.state.pend.length - i ∧ i ≤ r.state.pend.length ∧ Since (out (fo sb vo) w0) w0 X w ∧ RTl w X Ai sb voi ⟨s.id, s.next + 1, s.closed.later r.state.closed⟩ zsi ∧
        oc zsi = (r.state.pend.take i).foldl (fun l p => insO (p, n) l) (oc zs) ∧ zsi.length = zs.length + i ∧ (∀ k, Ai k → A k ∨ w0.heap.size ≤ k) ∧ (∀ g, voi.ownBlock = some g → vo.ownBlock = some g ∨ w0.heap.size ≤ g)) r.state.pend.length
        ⟨0, vo, zs, A, rfl, rfl, Nat.zero_le _, hs, hT3, rfl, rfl, fun k hk => .inl hk, fun g hg => .inl hg⟩ ?_
      clear hs hT3 hc3 hbox
      rintro n' a w X ⟨i, voi, zsi, Ai, rfl, rfl, hi, hs, hT, hoc, hln, hAi, hvi⟩
      have hplen := hf.st.pl
      rcases at_or r.state.pend i with ⟨hlt, x, hx, hd⟩ | ⟨hge, hd⟩
      · have hxs := hsm.state.p x (List.mem_of_getElem? hx)
        repeat' first | ((with_reducible refine r_lssT ?_ ?_); (· omega)) | with_reducible apply condW_T | ((with_reducible apply m_ldA); (· (first | assumption | exact RowIs.cells (by assumption))); (· (first | exact mv0 | exact mv1 (by assumption) | exact mv2 (by assumption) (by assumption))); (· kernel_rfl); (· rfl)) | ((with_reducible apply m_lnR); (· assumption); (· kernel_rfl)) | ((with_reducible apply m_ixP); (· assumption); (try (case hz => rfl)); (case hr => first | assumption | exact List.getElem?_eq_getElem (by omega)); (try (case hz => omega)); (case ht => kernel_rfl); (case hs => kernel_rfl); intros)
        refine r_ct (d_ref18_put (p := x) (n0 := n) (hT) (Sl.mv (by assumption) hs.mv) (Sl.mv (by assumption) hs.mv) (hxs.1) (hxs.2) (by omega)) (by kernel_rfl) hs.has (fun k hk => by rw [hk]; exact (hT).box.1) fun v wa w3 X3 hq hle hin hkp hc3 => ?_
        obtain ⟨rfl, vo3, zs3, hT3, hoc3⟩ := hq
        have hszA := hs.kp.size
        have hown3 := hT3.ow.2.2
        replace hs := hs.chg hc3 fun k hk e => hk.2 (.inl e)
        replace hT3 := hT3.to (Y := X3) (hc3.sub _ (hT).box.1) (fun k hk => by
          rcases hk with hk | hk
          · exact hc3.sub k ((hT).sub k hk).1
          · exact hin k hk.1) (fun g hg => by
          rcases hT3.ow.2.2 g hg with h | h | h
          · rw [h]; exact hc3.sub _ (hT).box.1
          · exact hc3.sub g ((hT).sub g h).1
          · exact hin g h)
        have hv3 : ∀ g, vo3.ownBlock = some g → vo.ownBlock = some g ∨ w0.heap.size ≤ g := fun g hg => by
          rcases hown3 g hg with h | h | h
          · exact absurd h (hT3.sep g hg)
          · exact absurd hg (hT3.sub g (.inl h)).2.2.2
          · have := h.1; right; omega
        have hA3 : ∀ k, (Ai k ∨ (made wa w3 k ∧ vo3.ownBlock ≠ some k)) → A k ∨ w0.heap.size ≤ k := fun k hk => by
          rcases hk with hk | hk
          · exact hAi k hk
          · have := hk.1.1; right; omega
        repeat' first | ((with_reducible apply r_add); (· omega); (· omega))
        refine nx1_of (r.state.pend.length - (i + 1)) (by omega) ⟨i + 1, vo3, zs3, _, by simp, rfl, by omega, hs, hT3, ?_, ?_, hA3, hv3⟩
        · rw [hoc3, hoc, List.take_add_one, hx]; simp
        · have := congrArg List.length hoc3
          rw [insO_len] at this
          simp at this
          omega
      · rw [List.take_of_length_le hge] at hoc
        have hS : feedS s r = ⟨s.id, s.next + 1, s.closed.later r.state.closed⟩ := by unfold feedS; simp [hk1]
        repeat' first | ((with_reducible refine r_lssF ?_ ?_); (· omega)) | with_reducible apply condW_F | ((with_reducible apply m_lnR); (· assumption); (· kernel_rfl))
        refine hK _ _ voi zsi Ai hs (by rw [hS]; exact hT) ?_ hAi hvi ?_
        · rw [hoc]; unfold feedO; simp [hk1]
        · unfold toldO; simp [hk1]
    · have hk1 := ‹r.kind = 3›
      have hT := hT2
      have hAi : ∀ k, A k → A k ∨ w0.heap.size ≤ k := fun k hk => .inl hk
      refine r_ct (d_ref18_put (p := ⟨r.txn, r.stamp, r.reads, r.writes⟩) (n0 := n) (hT) (h1.mv hs.mv) (h2.mv hs.mv) (hsm.reads) (hsm.writes) (by omega)) (by kernel_rfl) hs.has (fun k hk => by rw [hk]; exact (hT).box.1) fun v wa w3 X3 hq hle hin hkp hc3 => ?_
      obtain ⟨rfl, vo3, zs3, hT3, hoc3⟩ := hq
      have hszA := hs.kp.size
      have hown3 := hT3.ow.2.2
      replace hs := hs.chg hc3 fun k hk e => hk.2 (.inl e)
      replace hT3 := hT3.to (Y := X3) (hc3.sub _ (hT).box.1) (fun k hk => by
        rcases hk with hk | hk
        · exact hc3.sub k ((hT).sub k hk).1
        · exact hin k hk.1) (fun g hg => by
        rcases hT3.ow.2.2 g hg with h | h | h
        · rw [h]; exact hc3.sub _ (hT).box.1
        · exact hc3.sub g ((hT).sub g h).1
        · exact hin g h)
      have hv3 : ∀ g, vo3.ownBlock = some g → vo.ownBlock = some g ∨ w0.heap.size ≤ g := fun g hg => by
        rcases hown3 g hg with h | h | h
        · exact absurd h (hT3.sep g hg)
        · exact absurd hg (hT3.sub g (.inl h)).2.2.2
        · have := h.1; right; omega
      have hA3 : ∀ k, (A k ∨ (made wa w3 k ∧ vo3.ownBlock ≠ some k)) → A k ∨ w0.heap.size ≤ k := fun k hk => by
        rcases hk with hk | hk
        · exact hAi k hk
        · have := hk.1.1; right; omega
      have hS : feedS s r = ⟨s.id, s.next + 1, s.closed⟩ := by unfold feedS; simp [hk1]
      refine hK _ _ vo3 zs3 _ hs (by rw [hS]; exact hT3) ?_ hA3 hv3 ?_
      · rw [hoc3]; unfold feedO; simp [hk1]
      · unfold toldO; simp [hk1]
    · have hk1 := ‹r.kind = 4›
      refine r_ct (d_ref18_decides (r := r) hT2 (hao.mv hs.mv) (by omega)) (by kernel_rfl) hs.has (fun k hk => by rw [hk]; exact hT2.box.1) fun v wa w3 X3 hq hle hin hkp hc3 => ?_
      obtain ⟨vw', vo', zs', rfl, hsl, hT3, hoc3⟩ := hq
      replace hs := hs.chg hc3 fun k hk e => hk.2 (.inl e)
      have o9 := hsl.one
      have hS : feedS s r = ⟨s.id, s.next + 1, s.closed⟩ := by unfold feedS; simp [hk1]
      repeat' first | ((with_reducible apply m_sub); (· (simp only [Value.cells, nq1, nq2, nq3, nq4, nq5, nq6, setL, nq7, nq8, nq9, nq0, Nat.reduceAdd, Nat.zero_add]; try rfl))) | with_reducible apply un_box | ((with_reducible apply m_chkc); (case h => (repeat' first | with_reducible apply all_one_cons | with_reducible exact all_one_nil | assumption | rfl | exact Sl.one (by assumption) | exact Rws.one (by assumption) | exact Sl.one (Own.sl (by assumption))))) | ((with_reducible apply chk_T); (· first | rfl | assumption | exact Sl.one (by assumption) | exact Rws.one (by assumption) | exact Sl.one (Own.sl (by assumption))))
      refine fin_ret hs fun wb hkb => hend _ wb vw' vo' zs' A ?_ ?_ ?_ (fun k hk => .inl hk) ?_
      · unfold toldO; rw [if_pos hk1]; rfl
      · unfold toldO; rw [if_pos hk1]
        exact hsl.mv fun k hk hl => by
          rcases hk with hk | hk
          · exact ⟨.inl hk, hkb.block k (hc3.sub k (hT2.sub k hk).1)⟩
          · exact ⟨.inr (by have := hk.1; have := hs.kp.size; omega), hkb.block k (hin k hk)⟩
      · rw [hoc3]; unfold feedO; simp [hk1]
      · rw [hS]
        refine (hT3.kp (hkb.less fun k hk => ?_)).wide fun k hk => ?_
        · rcases hk with hk | hk | hk | hk
          · rw [hk]; exact hc3.sub _ hT2.box.1
          · exact hc3.sub k (hT2.sub k hk).1
          · exact hc3.sub k (hT2.ow.2.2 k hk)
          · exact hin k hk
        · rcases hk with hk | hk | hk | hk
          · exact .inl hk
          · exact .inr (.inl hk)
          · exact .inr (.inr (.inl hk))
          · exact .inr (.inr (.inr (by have := hk.1; omega)))
    · have hk1 := ‹r.kind = 5›
      refine m_rtClosed (c := s.closed.later r.stamp) (hT2.mv hs1.mv hs1.kp.size) (by assumption) hs.has fun w3 X3 hc3 hT3 => ?_
      replace hs := hs.chg hc3 fun k hk e => hk.2 (.inl e)
      have hS : feedS s r = ⟨s.id, s.next + 1, s.closed.later r.stamp⟩ := by unfold feedS; simp [hk1]
      refine hK _ _ vo zs A hs (by rw [hS]; exact hT3) ?_ (fun k hk => .inl hk) (fun g hg => .inl hg) ?_
      · unfold feedO; simp [hk1]
      · unfold toldO; simp [hk1]
    · have hk1 := ‹r.kind = 6›
      refine m_rtClosed (c := s.closed.later r.stamp) (hT2.mv hs1.mv hs1.kp.size) (by assumption) hs.has fun w3 X3 hc3 hT3 => ?_
      clear hbox hT2 hs1
      have hbox := hT3.box
      replace hs := hs.chg hc3 fun k hk e => hk.2 (.inl e)
      skip
      refine lp1_of (fun n' a w X => ∃ (i : Nat) (zsi : List OV) (Ai : XS), a = I (i : Nat) ∧ n' = zs.length - i ∧ i ≤ zs.length ∧ Since (out (fo sb vo) w0) w0 X w ∧ RTl w X Ai sb vo ⟨s.id, s.next + 1, s.closed.later r.stamp⟩ zsi ∧
        zsi.drop i = zs.drop i ∧ zsi.length = zs.length ∧ oc zsi = (oc (zs.take i)).map (cutO r.point) ++ oc (zs.drop i) ∧ (∀ k, Ai k → A k ∨ w0.heap.size ≤ k)) zs.length
        ⟨0, zs, A, rfl, rfl, Nat.zero_le _, hs, hT3, rfl, rfl, by simp, fun k hk => .inl hk⟩ ?_
      clear hs hT3 hc3 hbox
      rintro n' a w X ⟨i, zsi, Ai, rfl, rfl, hi, hs, hT, hdr, hlz, hoc, hAi⟩
      have hbox := hT.box
      have hsl := hT.ow.sl
      rcases at_or zs i with ⟨hlt, z, hz, hd⟩ | ⟨hge, hd⟩
      · have hzi : zsi[i]? = some z := by
          have := congrArg (fun l => l[0]?) hdr
          simpa [hz] using this
        have hzo := hT.zin' (List.mem_of_getElem? hzi)
        have hzk := hok z (List.mem_of_getElem? hz)
        have o1 := hzo.1.one
        have o2 := hzo.2.one
        obtain ⟨g, n9, cap, hv9, hn9'⟩ : ∃ g n9 cap, vo = .slice (some ⟨g, 0, none⟩) n9 cap ∧ n9 = zsi.length := by
          rcases hT.ow.row with ⟨_, hn⟩ | ⟨g, cap, cs, hv, _⟩
          · rw [List.map_eq_nil_iff] at hn
            rw [hn] at hzi; simp at hzi
          · exact ⟨g, _, cap, hv, by simp⟩
        subst hv9
        have hgo : (Value.slice (some ⟨g, 0, none⟩) n9 cap).ownBlock = some g := rfl
        repeat' first | ((with_reducible refine r_lssT ?_ ?_); (· omega)) | with_reducible (first | apply condW_T | apply r_nil) | ((with_reducible apply m_fld1); (· (first | assumption | exact RowIs.cells (by assumption))); (· kernel_rfl); (· rfl); intro _ _ _) | ((with_reducible apply m_fld); (· (first | assumption | exact RowIs.cells (by assumption))); (· kernel_rfl); (· rfl); (· (simp only [Value.cells, nq1, nq2, nq3, nq4, nq5, nq6, setL, nq7, nq8, nq9, nq0, Nat.reduceAdd, Nat.zero_add]; try rfl)); intro _ _ _) | ((with_reducible apply m_ld1); (· (first | assumption | exact RowIs.cells (by assumption))); (· (first | exact mv0 | exact mv1 (by assumption) | exact mv2 (by assumption) (by assumption))); (· kernel_rfl); (· rfl)) | ((with_reducible apply m_lnS); (· (first | assumption | exact Own.sl (by assumption))); (· kernel_rfl)) | ((with_reducible apply m_ixS); (· (first | assumption | exact Own.sl (by assumption))); (try (case hz => rfl)); (case hr => first | assumption | exact List.getElem?_eq_getElem (by omega)); (try (case hz => omega)); (case ht => kernel_rfl); (case hs => kernel_rfl); intro _ _ _)
        clear hsl
        refine r_ct0 (d_ref15_Texts (xs := z.1.p.reads) (pt := r.point) hzo.1 hzk.r hzk.rk) (by kernel_rfl) hs.has ?_
        rintro v wa w4 X4 ⟨va, vb, rfl, hva, hvb⟩ hle hin hs4
        have hT4 := hT.mv hs4.mv hs4.kp.size
        have hzl9 : (zsi.map OV.l)[i]? = some (OV.l z) := by rw [List.getElem?_map, hzi]; rfl
        have hva' := hva.up hin (Nat.le_trans hs.kp.size hle)
        replace hs := hs.trans hs4
        repeat' first | ((with_reducible apply m_ext); (· rfl))
        have hcl := Own.cell hT4.ow hzl9
        refine m_ixO (i := i) rfl (by rw [hn9', hlz]; exact hlt) (by kernel_rfl) (by kernel_rfl) ?_
        obtain ⟨cr, cn, cc, rfl⟩ := hva.sl.form
        repeat' first | ((with_reducible apply m_fld1); (· (first | assumption | exact RowIs.cells (by assumption))); (· kernel_rfl); (· rfl); intro _ _ _) | ((with_reducible apply m_fld); (· (first | assumption | exact RowIs.cells (by assumption))); (· kernel_rfl); (· rfl); (· (simp only [Value.cells, nq1, nq2, nq3, nq4, nq5, nq6, setL, nq7, nq8, nq9, nq0, Nat.reduceAdd, Nat.zero_add]; try rfl)); intro _ _ _)
        refine m_stO (i := i) (o := 6) hT4.ow hzl9 (by omega) (by kernel_rfl) (by omega) (by omega) rfl rfl hs.has fun w5 X5 hc5 ho5 => ?_
        have hs5 := hs.chg hc5 fun k hk e => hk.2 (.inr (by rw [e]; rfl))
        let z1 : OV := (⟨⟨z.1.p.txn, z.1.p.stamp, z.1.p.reads.filter (below r.point), z.1.p.writes⟩, cr, cn, cc, z.1.bw, z.1.nw, z.1.cw⟩, z.2)
        have ho6 : Own w5 X5 0 98 9 (.slice (some ⟨g, 0, none⟩) n9 cap) ((zsi.set i z1).map OV.l) := by rw [List.map_set]; exact ho5
        have hva5 := hva'.chg hc5 fun k hk e => by
          have := (hva'.ge hk).1
          have := (h.ow.ge (g := g) rfl).2
          omega
        have hgv := hgo
        have hcut : ∀ k, (Value.slice cr cn cc).ownBlock = some k → w0.heap.size ≤ k ∧ k < w5.heap.size := fun k hk => hva5.ge hk
        have hgw : g < w0.heap.size := (h.ow.ge (g := g) rfl).2
        have hsbw : sb < w0.heap.size := h.box.lt
        have hT5 : RTl w5 X5 (fun k => Ai k ∨ (Value.slice cr cn cc).ownBlock = some k) sb (.slice (some ⟨g, 0, none⟩) n9 cap) ⟨s.id, s.next + 1, s.closed.later r.stamp⟩ (zsi.set i z1) := by
          refine hT4.set hgo hc5 ho6 (fun k hk => .inl hk) ⟨Own.sl ⟨hva5.1, hva5.2.1, fun k hk => .inr hk⟩, ?_⟩ fun k hk => ?_
          · exact (hT4.zin z (List.mem_of_getElem? hzi)).2.mv fun k hk hl => ⟨.inl hk, hc5.block k (hT4.sub k hk).1 fun e => (hT4.sub k hk).2.2.2 (by rw [e]; rfl)⟩
          · rcases hk with hk | hk
            · exact .inl hk
            · have := hcut k hk
              exact .inr ⟨hva5.2.2 k hk, this.2, by omega, fun e => (by have e2 : g = k := (by simpa [Value.ownBlock] using e); omega)⟩
        have hlz5 : (zsi.set i z1).length = zs.length := by rw [List.length_set]; exact hlz
        have hz15 : (zsi.set i z1)[i]? = some z1 := by rw [List.getElem?_set, if_pos rfl, if_pos (by omega)]
        have hzo5 := hT5.zin' (List.mem_of_getElem? hz15)
        have p1 := hzo5.1.one
        have p2 := hzo5.2.one
        clear hbox hcl ho5 ho6
        have hbox := hT5.box
        have hsl := hT5.ow.sl
        replace hs := hs5
        clear hs5
        repeat' first | with_reducible apply r_nil | ((with_reducible apply m_fld1); (· (first | assumption | exact RowIs.cells (by assumption))); (· kernel_rfl); (· rfl); intro _ _ _) | ((with_reducible apply m_fld); (· (first | assumption | exact RowIs.cells (by assumption))); (· kernel_rfl); (· rfl); (· (simp only [Value.cells, nq1, nq2, nq3, nq4, nq5, nq6, setL, nq7, nq8, nq9, nq0, Nat.reduceAdd, Nat.zero_add]; try rfl)); intro _ _ _) | ((with_reducible apply m_ld1); (· (first | assumption | exact RowIs.cells (by assumption))); (· (first | exact mv0 | exact mv1 (by assumption) | exact mv2 (by assumption) (by assumption))); (· kernel_rfl); (· rfl)) | ((with_reducible apply m_ixS); (· (first | assumption | exact Own.sl (by assumption))); (try (case hz => rfl)); (case hr => first | assumption | exact List.getElem?_eq_getElem (by omega)); (try (case hz => omega)); (case ht => kernel_rfl); (case hs => kernel_rfl); intro _ _ _)
        clear hsl
        refine r_ct0 (d_ref15_Halve (xs := z1.1.p.writes) (pt := r.point) hzo5.2 hzk.w hzk.wk) (by kernel_rfl) hs.has ?_
        rintro v wb w6 X6 ⟨vc, vd', rfl, hvc, hvd⟩ hle6 hin6 hs6
        have hT6 := hT5.mv hs6.mv hs6.kp.size
        have hzl6 : ((zsi.set i z1).map OV.l)[i]? = some (OV.l z1) := by rw [List.getElem?_map, hz15]; rfl
        have hvc' := hvc.up hin6 (Nat.le_trans hs.kp.size hle6)
        replace hs := hs.trans hs6
        repeat' first | ((with_reducible apply m_ext); (· rfl))
        have hcl6 := Own.cell hT6.ow hzl6
        refine m_ixO (i := i) rfl (by rw [hn9', hlz]; exact hlt) (by kernel_rfl) (by kernel_rfl) ?_
        obtain ⟨dr, dn, dc, rfl⟩ := hvc.sl.form
        repeat' first | ((with_reducible apply m_fld1); (· (first | assumption | exact RowIs.cells (by assumption))); (· kernel_rfl); (· rfl); intro _ _ _) | ((with_reducible apply m_fld); (· (first | assumption | exact RowIs.cells (by assumption))); (· kernel_rfl); (· rfl); (· (simp only [Value.cells, nq1, nq2, nq3, nq4, nq5, nq6, setL, nq7, nq8, nq9, nq0, Nat.reduceAdd, Nat.zero_add]; try rfl)); intro _ _ _)
        refine m_stO (i := i) (o := 7) hT6.ow hzl6 (by omega) (by kernel_rfl) (by omega) (by omega) rfl rfl hs.has fun w7 X7 hc7 ho7 => ?_
        have hs7 := hs.chg hc7 fun k hk e => hk.2 (.inr (by rw [e]; rfl))
        let z2 : OV := (⟨⟨z.1.p.txn, z.1.p.stamp, z.1.p.reads.filter (below r.point), z.1.p.writes.filter fun x => below r.point x.key⟩, cr, cn, cc, dr, dn, dc⟩, z.2)
        have hset : (zsi.set i z1).set i z2 = zsi.set i z2 := by rw [List.set_set]
        have ho8 : Own w7 X7 0 98 9 (.slice (some ⟨g, 0, none⟩) n9 cap) (((zsi.set i z1).set i z2).map OV.l) := by rw [List.map_set]; exact ho7
        have hvc7 := hvc'.chg hc7 fun k hk e => by
          have := (hvc'.ge hk).1
          omega
        have hT7 : RTl w7 X7 (fun k => (Ai k ∨ (Value.slice cr cn cc).ownBlock = some k) ∨ (Value.slice dr dn dc).ownBlock = some k) sb (.slice (some ⟨g, 0, none⟩) n9 cap) ⟨s.id, s.next + 1, s.closed.later r.stamp⟩ ((zsi.set i z1).set i z2) := by
          refine hT6.set hgo hc7 ho8 (fun k hk => .inl hk) ⟨?_, Own.sl ⟨hvc7.1, hvc7.2.1, fun k hk => .inr hk⟩⟩ fun k hk => ?_
          · exact (hT6.zin z1 (List.mem_of_getElem? hz15)).1.mv fun k hk hl => ⟨.inl hk, hc7.block k (hT6.sub k hk).1 fun e => (hT6.sub k hk).2.2.2 (by rw [e]; rfl)⟩
          · rcases hk with hk | hk
            · exact .inl hk
            · have := hvc7.ge hk
              exact .inr ⟨hvc7.2.2 k hk, this.2, by omega, fun e => (by have e2 : g = k := (by simpa [Value.ownBlock] using e); omega)⟩
        rw [hset] at hT7
        replace hs := hs7
        clear hs7
        repeat' first | ((with_reducible apply r_add); (· omega); (· omega))
        refine nx1_of (zs.length - (i + 1)) (by omega) ⟨i + 1, zsi.set i z2, _, by simp, rfl, by omega, hs, hT7, ?_, by rw [List.length_set]; exact hlz, ?_, fun k hk => ?_⟩
        · rw [List.drop_set_of_lt (by omega)]
          have := congrArg (List.drop 1) hdr
          simpa [List.drop_drop, Nat.add_comm] using this
        · have h9 : oc (zsi.set i z2) = (oc zsi).set i (z2.1.p, z2.2) := by rw [oc, List.map_set]
          rw [h9, hoc, hd, List.take_add_one, hz]
          refine (set_mid (a := (oc (zs.take i)).map (cutO r.point)) (b := oc (zs.drop (i + 1))) (x := (z.1.p, z.2)) rfl (by simp; omega)).trans ?_
          simp [oc, cutO, z2]
        · rcases hk with (hk | hk) | hk
          · exact hAi k hk
          · exact .inr (hcut k hk).1
          · exact .inr (hvc7.ge hk).1
      · repeat' first | ((with_reducible refine r_lssF ?_ ?_); (· omega)) | with_reducible (first | apply condW_F | apply r_nil) | ((with_reducible apply m_fld1); (· (first | assumption | exact RowIs.cells (by assumption))); (· kernel_rfl); (· rfl); intro _ _ _) | ((with_reducible apply m_ld1); (· (first | assumption | exact RowIs.cells (by assumption))); (· (first | exact mv0 | exact mv1 (by assumption) | exact mv2 (by assumption) (by assumption))); (· kernel_rfl); (· rfl)) | ((with_reducible apply m_lnS); (· (first | assumption | exact Own.sl (by assumption))); (· kernel_rfl))
        have hoc' : oc zsi = (oc zs).map (cutO r.point) := by rw [hoc, List.take_of_length_le hge, hd]; simp
        have hS : feedS s r = ⟨s.id, s.next + 1, s.closed.later r.stamp⟩ := by unfold feedS; simp [hk1]
        refine r_ct0V (d_ref18_Resolved hT) (by kernel_rfl) hs.has fun w X hs1 => ?_
        replace hs := hs.trans hs1
        have hT5 := hT.mv hs1.mv hs1.kp.size
        repeat' first | ((with_reducible apply un_cell); (· rfl)) | ((with_reducible apply m_sub); (· (simp only [Value.cells, nq1, nq2, nq3, nq4, nq5, nq6, setL, nq7, nq8, nq9, nq0, Nat.reduceAdd, Nat.zero_add]; try rfl))) | with_reducible apply un_box | ((with_reducible apply r_bld); (· kernel_rfl)) | ((with_reducible apply m_chkc); (case h => (repeat' first | with_reducible apply all_one_cons | with_reducible exact all_one_nil | assumption | rfl | exact Sl.one (by assumption) | exact Rws.one (by assumption) | exact Sl.one (Own.sl (by assumption))))) | ((with_reducible apply chk_T); (· first | rfl | assumption | exact Sl.one (by assumption) | exact Rws.one (by assumption) | exact Sl.one (Own.sl (by assumption))))
        refine fin_ret hs fun wb hkb => hend _ wb (.slice none 0 0) vo zsi Ai ?_ ?_ ?_ hAi ?_
        · unfold toldO; rw [if_neg (by omega), if_pos hk1, hoc']
        · unfold toldO; rw [if_neg (by omega), if_pos hk1]; exact Sl.nil _ _ _
        · rw [hoc']; unfold feedO; simp [hk1]
        · rw [hS]
          exact (hT5.kp hkb).to (.inl rfl) (fun k hk => by rcases hAi k hk with h | h; exact .inr (.inl h); exact .inr (.inr (.inr h))) fun g hg => .inr (.inr (.inl hg))
    · have hS : feedS s r = ⟨s.id, s.next + 1, s.closed⟩ := by
        unfold feedS; rw [if_neg (by omega), if_neg (by omega)]
      refine hK _ _ vo zs A hs (by rw [hS]; exact hT2) ?_ (fun k hk => .inl hk) (fun g hg => .inl hg) ?_
      · unfold feedO; rw [if_neg (by omega), if_neg (by omega), if_neg (by omega), if_neg (by omega)]
      · unfold toldO; rw [if_neg (by omega), if_neg (by omega)]
end Go.Proofs.YtnphlhpdikmpiaaGreat
namespace Go.Proofs.YtnphlhpdikmpiaaGreat
open Go.Eng
set_option maxRecDepth 100000
set_option maxHeartbeats 1000000
set_option linter.unusedVariables false
set_option linter.unusedSimpArgs false
attribute [local irreducible] un jn chk fld ld1 ldA st1 ixS lnS lnT bld cvI cvF ixA bsS apS rdV rdW grdW eW eV eU eC eF gE condW fin pickN nilN binS vS lp0 lp1 lp2 lp3 lp4 lp5 lp6 lp7 nx0 nx1 nx2 nx3 nx4 nx5 nx6 nx7
structure Rel (c : Cont) (l : OC) : Prop where
  perm : l.Perm (c.map (·.2))
  ord : l.Pairwise fun a b => b.1.txn.less a.1.txn = false
theorem Rel.nil : Rel [] [] := ⟨List.Perm.refl _, List.Pairwise.nil⟩
section
variable {c : Cont} {l : OC}
theorem Rel.txns (h : Rel c l) (hk : KeyC c) : (l.map (·.1.txn)).Perm (c.map (·.1)) := by
  have h1 := h.perm.map (fun x : Pend × Int => x.1.txn)
  rw [List.map_map] at h1
  rw [show c.map ((fun x : Pend × Int => x.1.txn) ∘ fun x : Txn × Pend × Int => x.2) = c.map (·.1) from List.map_congr_left fun e he => hk e he] at h1
  exact h1
theorem getM_mem {t : Txn} : ∀ {c : Cont}, (getM t c).isSome = decide (t ∈ c.map (·.1))
  | [] => rfl
  | x :: c => by
    have ih := getM_mem (t := t) (c := c)
    by_cases hx : x.1 = t
    · simp [getM, hx]
    · have : getM t (x :: c) = getM t c := by simp [getM, hx]
      rw [this, ih, List.map_cons]
      have : ¬ t = x.1 := fun e => hx e.symm
      simp [this]
theorem hasO_mem {t : Txn} {l : OC} : hasO t l = decide (t ∈ l.map (·.1.txn)) := by
  unfold hasO
  rw [Bool.eq_iff_iff, List.any_eq_true, decide_eq_true_eq, List.mem_map]
  simp
theorem Rel.has (h : Rel c l) (hk : KeyC c) (t : Txn) : hasO t l = (getM t c).isSome := by
  rw [getM_mem, hasO_mem]
  simp only [(h.txns hk).mem_iff]
theorem Rel.need (h : Rel c l) (n : Int) : needO n l = needC n c := by
  unfold needO needC
  rw [h.perm.foldl_eq' (fun x _ y _ z => by omega), List.foldl_map]
theorem Rel.res (h : Rel c l) (s : Stamp) : resO s l = resC s c := by
  unfold resO resC
  rw [h.perm.foldl_eq' (fun x _ y _ z => (prior_comm _ _ _)), List.foldl_map]
theorem Rel.opens (h : Rel c l) (hk : KeyC c) (hn : (c.map (·.1)).Nodup) : l.map (·.1) = opensC c := by
  refine opensC_is hk hn ?_ ?_
  · have := h.perm.map (·.1)
    rw [List.map_map] at this
    exact this
  · exact List.pairwise_map.2 h.ord
theorem insO_perm (x : Pend × Int) (l : OC) : (insO x l).Perm (x :: l) := by
  unfold insO
  have h := List.takeWhile_append_dropWhile (p := fun q : Pend × Int => q.1.txn.less x.1.txn) (l := l)
  refine List.Perm.trans List.perm_middle ?_
  rw [h]
theorem mem_takeWhile_less {x y : Pend × Int} : ∀ {l : OC}, y ∈ l.takeWhile (fun q => q.1.txn.less x.1.txn) → y.1.txn.less x.1.txn = true
  | [], h => by cases h
  | z :: l, h => by
    rw [List.takeWhile_cons] at h
    split at h
    · rcases List.mem_cons.1 h with rfl | h
      · assumption
      · exact mem_takeWhile_less h
    · cases h
theorem drop_not_less {x : Pend × Int} : ∀ {l : OC}, (l.Pairwise fun a b => b.1.txn.less a.1.txn = false) → ∀ y ∈ l.dropWhile (fun q => q.1.txn.less x.1.txn), y.1.txn.less x.1.txn = false
  | [], _, y, h => by cases h
  | z :: l, hp, y, h => by
    rw [List.dropWhile_cons] at h
    have hp' := List.pairwise_cons.1 hp
    split at h
    · exact drop_not_less hp'.2 y h
    · have hz : z.1.txn.less x.1.txn = false := by simpa using ‹¬ z.1.txn.less x.1.txn = true›
      rcases List.mem_cons.1 h with rfl | h
      · exact hz
      · exact Txn.less_ntrans (hp'.1 y h) hz
theorem insO_ord {x : Pend × Int} {l : OC} (h : l.Pairwise fun a b => b.1.txn.less a.1.txn = false) : (insO x l).Pairwise fun a b => b.1.txn.less a.1.txn = false := by
  unfold insO
  have hsplit := List.takeWhile_append_dropWhile (p := fun q : Pend × Int => q.1.txn.less x.1.txn) (l := l)
  have h2 := h
  rw [← hsplit, List.pairwise_append] at h2
  rw [List.pairwise_append]
  refine ⟨h2.1, List.pairwise_cons.2 ⟨fun y hy => drop_not_less h y hy, h2.2.1⟩, fun a ha b hb => ?_⟩
  have hax := mem_takeWhile_less ha
  rcases List.mem_cons.1 hb with rfl | hb
  · cases hxa : b.1.txn.less a.1.txn
    · rfl
    · have := Txn.less_trans hax hxa
      rw [Txn.less_irrefl] at this; cases this
  · exact h2.2.2 a ha b hb
theorem putC_new {t : Txn} {a : Pend × Int} : ∀ {c : Cont}, getM t c = none → putM t a c = c ++ [(t, a)]
  | [], _ => rfl
  | x :: c, h => by
    unfold putM
    by_cases hx : x.1 = t
    · simp [getM, hx] at h
    · rw [if_neg hx, putC_new (by simpa [getM, hx] using h)]; rfl
theorem Rel.put (h : Rel c l) {p : Pend} (hn : getM p.txn c = none) (n : Int) : Rel (putM p.txn (p, n) c) (insO (p, n) l) := by
  refine ⟨?_, insO_ord h.ord⟩
  rw [putC_new hn, List.map_append]
  refine (insO_perm _ _).trans ?_
  refine (List.Perm.cons _ h.perm).trans ?_
  exact (List.perm_append_singleton _ _).symm
theorem getC_put {k t : Txn} {a : Pend × Int} (hne : k ≠ t) : ∀ {c : Cont}, getM k (putM t a c) = getM k c
  | [] => by
    have : ¬ t = k := fun e => hne e.symm
    simp [putM, getM, this]
  | x :: c => by
    have ih := getC_put (a := a) hne (c := c)
    unfold putM
    by_cases hx : x.1 = t
    · rw [if_pos hx]
      have h1 : ¬ t = k := fun e => hne e.symm
      have h2 : ¬ x.1 = k := fun e => hne (e.symm.trans hx)
      simp [getM, h1, h2]
    · rw [if_neg hx]
      by_cases hxk : x.1 = k
      · simp [getM, hxk]
      · have e1 : getM k (x :: putM t a c) = getM k (putM t a c) := by simp [getM, hxk]
        have e2 : getM k (x :: c) = getM k c := by simp [getM, hxk]
        rw [e1, e2, ih]
theorem Rel.puts {n : Int} : ∀ {ps : List Pend} {c : Cont} {l : OC}, Rel c l → (∀ p ∈ ps, getM p.txn c = none) → (ps.map (·.txn)).Nodup →
    Rel (ps.foldl (fun c p => putM p.txn (p, n) c) c) (ps.foldl (fun l p => insO (p, n) l) l)
  | [], _, _, h, _, _ => h
  | p :: ps, c, l, h, hf, hn => by
    rw [List.map_cons, List.nodup_cons] at hn
    refine Rel.puts (ps := ps) (h.put (hf p (by simp)) n) (fun q hq => ?_) hn.2
    have hne : q.txn ≠ p.txn := fun e => hn.1 (List.mem_map.2 ⟨q, hq, e⟩)
    show getM q.txn (putM p.txn (p, n) c) = none
    rw [getC_put hne]
    exact hf q (by simp [hq])
theorem dec_filter {r : Rec} : ∀ {l : OC}, (l.map (·.1.txn)).Nodup → decO r l = l.filter fun x => decide (x.1.txn ≠ r.txn)
  | [], _ => by simp [decO, idxO, idxOf]
  | x :: l, hn => by
    rw [List.map_cons, List.nodup_cons] at hn
    have ih := dec_filter (r := r) hn.2
    by_cases hx : x.1.txn = r.txn
    · have h0 : idxO r.txn (x :: l) = 0 := by simp [idxO, idxOf, hx]
      unfold decO
      rw [h0]
      simp only [Int.lt_irrefl, if_false, Int.toNat_zero, List.eraseIdx_cons_zero]
      rw [List.filter_cons_of_neg (by simp [hx])]
      symm
      refine List.filter_eq_self.2 fun y hy => ?_
      simp only [ne_eq, decide_not, Bool.not_eq_true', decide_eq_false_iff_not]
      intro e; exact hn.1 (List.mem_map.2 ⟨y, hy, e.trans hx.symm⟩)
    · rw [List.filter_cons_of_pos (by simpa using hx), ← ih]
      have h1 : idxO r.txn (x :: l) = if idxO r.txn l < 0 then idxO r.txn l else idxO r.txn l + 1 := by
        unfold idxO
        rw [show idxOf (fun x : Pend × Int => decide (x.1.txn = r.txn)) (x :: l) = _ from by unfold idxOf; rfl]
        simp [hx]
      unfold decO
      rw [h1]
      by_cases hneg : idxO r.txn l < 0
      · simp [hneg]
      · rw [if_neg hneg, if_neg (by omega), if_neg hneg]
        rw [show (idxO r.txn l + 1).toNat = (idxO r.txn l).toNat + 1 by omega]
        rfl
theorem Rel.del (h : Rel c l) (hk : KeyC c) (hn : (c.map (·.1)).Nodup) (r : Rec) : Rel (delM r.txn c) (decO r l) := by
  rw [dec_filter ((h.txns hk).nodup_iff.2 hn)]
  refine ⟨?_, h.ord.filter _⟩
  refine (h.perm.filter _).trans ?_
  unfold delM
  rw [List.filter_map]
  rw [show c.filter (fun x => decide (x.1 ≠ r.txn)) = c.filter ((fun x : Pend × Int => decide (x.1.txn ≠ r.txn)) ∘ fun x => x.2) from List.filter_congr fun e he => by simp [hk e he]]
theorem Rel.find (h : Rel c l) (hk : KeyC c) (hn : (c.map (·.1)).Nodup) (t : Txn) : l.find? (fun x => decide (x.1.txn = t)) = getM t c := by
  cases hg : getM t c with
  | none =>
    rw [List.find?_eq_none]
    intro x hx
    have h1 := h.has hk t
    rw [hg] at h1
    have := List.any_eq_false.1 h1 x hx
    simpa using this
  | some a =>
    have hm : (t, a) ∈ c := mem_get hg
    have hml : a ∈ l := h.perm.mem_iff.2 (List.mem_map.2 ⟨_, hm, rfl⟩)
    have hat : a.1.txn = t := hk _ hm
    cases hf : l.find? (fun x => decide (x.1.txn = t)) with
    | none => exact absurd (List.find?_eq_none.1 hf a hml) (by simp [hat])
    | some b =>
      have hb := List.mem_of_find?_eq_some hf
      have hbt : b.1.txn = t := by simpa using List.find?_some hf
      obtain ⟨e, he, hbe⟩ := List.mem_map.1 (h.perm.mem_iff.1 hb)
      have het : e.1 = t := (hk e he).symm.trans (by rw [← hbt, ← hbe])
      have : getM t c = some e.2 := getM_of_mem hn (by rw [← het]; exact he)
      rw [hg] at this
      rw [this, ← hbe]
theorem order_some {a b : Ieee.Datum} (ha : a.isNaN = false) (hb : b.isNaN = false) : ∃ o, a.order b = some o := by
  cases a <;> cases b <;> simp_all [Ieee.Datum.order, Ieee.Datum.isNaN]
theorem place_num (k : BA) : (Ieee.double.read (placeOf k)).isNaN = false := by
  have h := placeOf_eq k
  have hn : (Ieee.double.read (floatOfInt .f64 (ishr (hashOf k) 11))).isNaN = false := read_nearest _ _ _ _
  have hd : Ieee.double.read 4845873199050653696 = .number false 4503599627370496 1 := by kernel_rfl
  change ((Ieee.double.read (floatOfInt .f64 (ishr (hashOf k) 11))).quotient _ (Ieee.double.read 4845873199050653696)).map Ieee.double.write = some (placeOf k) at h
  rw [hd] at h
  cases hr : Ieee.double.read (floatOfInt .f64 (ishr (hashOf k) 11)) with
  | number s m p =>
    rw [hr] at h
    simp only [Ieee.Datum.quotient] at h
    rw [if_neg (by decide)] at h
    simp only [Option.map_some, Option.some.injEq] at h
    rw [← h]
    exact read_nearest _ _ _ _
  | infinity s =>
    rw [hr] at h
    simp only [Ieee.Datum.quotient, Option.map_some, Option.some.injEq] at h
    rw [← h]
    cases s <;> decide +kernel
  | nan s f => rw [hr] at hn; simp [Ieee.Datum.isNaN] at hn
theorem keep_below {pt : Nat} (hp : (Ieee.double.read pt).isNaN = false) (k : BA) : keepRead pt k = below pt k := by
  unfold keepRead below fgt feq flt
  obtain ⟨o, ho⟩ := order_some (place_num k) hp
  have : FloatKind.f64.format.order (placeOf k) pt = some o := ho
  rw [this]
  cases o <;> rfl
theorem point_num {x : Nat} (h : pointOk x = true) : (Ieee.double.read x).isNaN = false := by
  unfold pointOk toPoint at h
  have hg : fgt x 0 = true := by
    by_cases h4 : cls x = 4
    · rw [if_pos h4] at h
      have : fgt 0 0 = false := by decide +kernel
      simp [this] at h
    · rw [if_neg h4] at h
      cases hi : isPoint x
      · simp [hi] at h
      · simp [hi] at h
        exact h.1
  unfold fgt at hg
  change ((Ieee.double.read x).order (Ieee.double.read 0) == some Ordering.gt) = true at hg
  cases hr : Ieee.double.read x with
  | number s m p => rfl
  | infinity s => rfl
  | nan s f => rw [hr] at hg; simp [Ieee.Datum.order] at hg
theorem cut_eq {pt : Nat} (hp : (Ieee.double.read pt).isNaN = false) (x : Pend × Int) : cutO pt x = (x.1.cut pt, x.2) := by
  unfold cutO Pend.cut
  rw [show keepRead pt = below pt from funext (keep_below hp)]
theorem Rel.cut (h : Rel c l) {pt : Nat} (hp : (Ieee.double.read pt).isNaN = false) : Rel (c.map (cutC pt)) (l.map (cutO pt)) := by
  refine ⟨?_, List.pairwise_map.2 (h.ord.imp fun h => h)⟩
  have := h.perm.map (cutO pt)
  rw [List.map_map] at this ⊢
  refine this.trans ?_
  rw [show c.map (cutO pt ∘ fun x => x.2) = c.map ((fun x => x.2) ∘ cutC pt) from List.map_congr_left fun e he => by simp [cut_eq hp, cutC]]
theorem err_own {r : Rec} (h : r.err = 0) : 1 ≤ r.kind ∧ r.kind ≤ 12 ∧ r = r.own ∧ r.fieldsOk = true := by
  rw [Rec.err_eq] at h
  split at h
  · cases h
  · split at h
    · rename_i h1 h2
      exact ⟨by omega, by omega, h2.1, h2.2⟩
    · cases h
theorem own_pend {r : Rec} (h : r = r.own) (hk : r.kind ≠ 1) : r.state.pend = [] := by
  have : r.own.state.pend = [] := by
    unfold Rec.own
    rw [if_neg hk]
    repeat' split
    all_goals rfl
  rw [h]; exact this
theorem pendGo_nodup {hm : List (BA × List Ver)} : ∀ {ps : List Pend} {pm : List (Txn × Pend)}, pendGo hm pm ps = 0 → (∀ p ∈ ps, getM p.txn pm = none) ∧ (ps.map (·.txn)).Nodup
  | [], _, _ => ⟨by simp, by simp⟩
  | p :: ps, pm, h => by
    unfold pendGo at h
    split at h
    · omega
    split at h
    · omega
    split at h
    · omega
    split at h
    · omega
    obtain ⟨h1, h2⟩ := pendGo_nodup h
    have hp : getM p.txn pm = none := by simpa using ‹¬ (getM p.txn pm).isSome = true›
    refine ⟨fun q hq => ?_, List.nodup_cons.2 ⟨fun hm => ?_, h2⟩⟩
    · rcases List.mem_cons.1 hq with rfl | hq
      · exact hp
      · have := h1 q hq
        rw [getM_putM'] at this
        split at this
        · cases this
        · exact this
    · obtain ⟨q, hq, he⟩ := List.mem_map.1 hm
      have := h1 q hq
      rw [getM_putM', if_pos he.symm] at this
      cases this
theorem state_nodup {s : State} (h : s.may = true) : (s.pend.map (·.txn)).Nodup := by
  unfold State.may at h
  simp only [Bool.and_eq_true, decide_eq_true_eq] at h
  have h1 := h.1.2
  unfold loadErr at h1
  split at h1
  · exact (pendGo_nodup h1).2
  · cases h1
theorem Rel.may (h : Rel c l) (hk : KeyC c) (s : TailS) (n : Int) (r : Rec) : refO s l n r = mayC s c n r := by
  unfold refO mayC
  split
  · rfl
  by_cases he : r.err = 0
  · obtain ⟨h1, h2, h3, h4⟩ := err_own he
    simp only [he, ne_eq, not_true_eq_false, if_false, false_or]
    simp only [h.has hk]
    by_cases k1 : r.kind = 1
    · have e1 : ¬ r.kind > 7 := by omega
      have e3 : ¬ r.kind = 3 := by omega
      by_cases kid : r.state.range.id = s.id
      · simp [k1, kid]
      · simp [k1, kid]
    · have hp := own_pend h3 k1
      rw [hp]
      by_cases k3 : r.kind = 3
      · simp [k3]
      · by_cases k7 : r.kind > 7
        · rw [if_pos (.inl k7)]; simp [k1, k3]; omega
        · rw [if_neg (by omega)]; simp [k1, k3]; omega
  · rw [if_pos (.inl he), if_pos he]
theorem mayC_err {s : TailS} {n : Int} {r : Rec} (h : mayC s c n r = 0) : r.err = 0 := by
  unfold mayC at h
  split at h
  · cases h
  split at h
  · cases h
  · rename_i h; omega
theorem Rel.feed (h : Rel c l) (hk : KeyC c) (hn : (c.map (·.1)).Nodup) {s : TailS} {n : Int} {r : Rec} (hm : mayC s c n r = 0) : Rel (feedC n r c) (feedO n r l) := by
  have he := mayC_err hm
  obtain ⟨h1, h2, h3, h4⟩ := err_own he
  unfold mayC at hm
  split at hm
  · cases hm
  simp only [he, ne_eq, not_true_eq_false, if_false] at hm
  unfold feedC feedO
  by_cases k1 : r.kind = 1
  · simp only [k1, if_true] at hm ⊢
    unfold Rec.fieldsOk at h4
    rw [if_pos k1] at h4
    split at hm
    · cases hm
    split at hm
    · cases hm
    · rename_i hany
      refine h.puts (fun p hp => ?_) (state_nodup h4)
      have hany' : ∀ x, x ∈ r.state.pend → getM x.txn c = none := by simpa using hany
      exact hany' p hp
  rw [if_neg k1, if_neg k1]
  by_cases k3 : r.kind = 3
  · simp only [k1, k3, if_true, if_false] at hm ⊢
    refine h.put (p := ⟨r.txn, r.stamp, r.reads, r.writes⟩) ?_ n
    show getM r.txn c = none
    cases hg : getM r.txn c with
    | none => rfl
    | some a => rw [hg] at hm; cases hm
  rw [if_neg k3, if_neg k3]
  by_cases k4 : r.kind = 4
  · rw [if_pos k4, if_pos k4]
    exact h.del hk hn r
  rw [if_neg k4, if_neg k4]
  by_cases k6 : r.kind = 6
  · rw [if_pos k6, if_pos k6]
    unfold Rec.fieldsOk at h4
    rw [if_neg k1, if_neg (by omega), if_neg k3, if_neg k4, if_neg (by omega), if_pos k6] at h4
    simp only [Bool.and_eq_true] at h4
    exact h.cut (point_num h4.1.1)
  · rw [if_neg k6, if_neg k6]; exact h
theorem Rel.told (h : Rel c l) (hk : KeyC c) (hn : (c.map (·.1)).Nodup) (s : TailS) (r : Rec) : toldO s r l = feedTold s r c := by
  unfold toldO feedTold
  split
  · unfold decT
    rw [h.find hk hn]
    cases getM r.txn c <;> rfl
  split
  · have : resO (s.closed.later r.stamp) (l.map (cutO r.point)) = resO (s.closed.later r.stamp) l := by
      simp only [resO, List.foldl_map, cutO]
      rfl
    rw [this, h.res]
  · rfl
end
end Go.Proofs.YtnphlhpdikmpiaaGreat
namespace Go.Proofs.YtnphlhpdikmpiaaGreat
open Go.Eng
set_option maxRecDepth 100000
set_option maxHeartbeats 1000000
set_option linter.unusedVariables false
set_option linter.unusedSimpArgs false
attribute [local irreducible] un jn chk fld ld1 ldA st1 ixS lnS lnT bld cvI cvF ixA bsS apS rdV rdW grdW eW eV eU eC eF gE condW fin pickN nilN binS vS lp0 lp1 lp2 lp3 lp4 lp5 lp6 lp7 nx0 nx1 nx2 nx3 nx4 nx5 nx6 nx7
abbrev fragV (t : ToldS) (vw : Value) : Value := .agg #[I t.rng, I t.at', I t.txn.coord, I t.txn.life, I t.txn.sq, I t.stamp.wall, I t.stamp.logic, I t.stamp.node, vw]
theorem d_raceref_Fragment {w : World} {X : XS} {t : ToldS} {v1 v2 : Value} (h1 : Sl w X 4 v1 (t.writes.map KV.l)) (h2 : Sl w X 4 v2 (t.writes.map KV.l)) :
    Ct Tryz.prog 43 #[fragV t v1, fragV t v2] w X nX fun v _ _ => v = B true := by
  intro w0 hk
  replace h1 := h1.mv hk.mvo
  replace h2 := h2.mv hk.mvo
  apply ok_raceref_Fragment; unfold vc_raceref_Fragment
  have hs := Since.init w0
  repeat' first | ((with_reducible refine r_eqlT ?_ ?_); (· omega)) | with_reducible (first | apply un_selT | apply un_selFT | apply grdV_onT | apply grdW_offT | apply rdW_pickT | apply rdW_pickF | apply gE_T | apply gE_FT) | ((with_reducible refine r_eqS _ _ ?_ ?_ ?_); (· kernel_rfl); all_goals intros) | ((with_reducible refine r_eqT _ _ ?_ ?_ ?_); (· kernel_rfl); all_goals intros) | with_reducible apply jn_of | ((first | (with_reducible refine fin_ret0 hs ?_) | (with_reducible refine fin_ret0 (hs0.trans hs) ?_)); intro wa hk; rfl) | (refine r_ct0B ((d_raceref_Writes)  (h1.mv hs.mv) (h2.mv hs.mv)) (by kernel_rfl) hs.has ?_ ?_ <;> (intro _ w X hs1; replace hs := hs.trans hs1))
  all_goals (exfalso; simp_all)
theorem d_racelaw18_same {w : World} {X : XS} {t : ToldS} {v1 v2 : Value} (h1 : Sl w X 4 v1 (t.writes.map KV.l)) (h2 : Sl w X 4 v2 (t.writes.map KV.l)) :
    Ct Tryz.prog 13 #[t.v v1, t.v v2] w X nX fun v _ _ => v = B true := by
  intro w0 hk
  replace h1 := h1.mv hk.mvo
  replace h2 := h2.mv hk.mvo
  apply ok_racelaw18_same; unfold vc_racelaw18_same
  have hs := Since.init w0
  repeat' first | ((with_reducible refine r_eqlT ?_ ?_); (· omega)) | with_reducible (first | apply un_selT | apply grdV_onT | apply rdW_pickT | apply gE_T) | ((with_reducible refine r_eqS _ _ ?_ ?_ ?_); (· kernel_rfl); all_goals intros) | with_reducible apply jn_of | ((first | (with_reducible refine fin_ret0 hs ?_) | (with_reducible refine fin_ret0 (hs0.trans hs) ?_)); intro wa hk; rfl) | (refine r_ct0V ((d_raceref_Fragment (t := t))  (h1.mv hs.mv) (h2.mv hs.mv)) (by kernel_rfl) hs.has ?_; intro w X hs1; replace hs := hs.trans hs1)
  all_goals (exfalso; simp_all)
def Shp (w : World) (X : XS) (lo e k : Nat) (v : Value) (n : Nat) : Prop :=
  (v = .slice none 0 0 ∧ n = 0) ∨ ∃ (g cap : Nat) (cs : List Value), v = .slice (some ⟨g, 0, none⟩) n cap ∧ lo ≤ g ∧ RowIs w X g cs e ∧ (n ≤ cap ∧ cap ≤ 2 ^ 63 - 1) ∧ cs.length = cap * k
theorem Own.shp {w : World} {X : XS} {lo e k : Nat} {v : Value} {rows : List (List Value)} (h : Own w X lo e k v rows) : Shp w X lo e k v rows.length := by
  rcases h.row with ⟨h1, h2⟩ | ⟨g, cap, cs, hv, hlo, hr, hn, hcm, hlen, _⟩
  · left; exact ⟨h1, by rw [h2]; rfl⟩
  · exact .inr ⟨g, cap, cs, hv, hlo, hr, ⟨hn, Nat.le_trans hcm (by decide)⟩, hlen⟩
theorem Shp.mv {w w' : World} {X Y : XS} {lo e k n : Nat} {v : Value} (h : Shp w X lo e k v n) (m : Mv X w Y w') : Shp w' Y lo e k v n := by
  rcases h with h | ⟨g, cap, cs, hv, hlo, hr, hn, hlen⟩
  · exact .inl h
  · exact .inr ⟨g, cap, cs, hv, hlo, hr.mv m, hn, hlen⟩
theorem Shp.st {w w' : World} {X X' : XS} {lo e e' k n g : Nat} {v : Value} {cs cs' : List Value} (h : Shp w X lo e k v n) (hc : Chg (fun k => k = g) X w X' w') (hr : RowIs w X g cs e') (hr' : RowIs w' X' g cs' e') (hl : cs'.length = cs.length) : Shp w' X' lo e k v n := by
  rcases h with h | ⟨g2, cap, cs2, hv, hlo, hr2, hn, hlen⟩
  · exact .inl h
  · refine .inr ⟨g2, cap, if g2 = g then cs' else cs2, hv, hlo, ?_, hn, ?_⟩
    · by_cases hg : g2 = g
      · subst hg
        rw [if_pos rfl]
        have h1 := hr.2
        rw [hr2.2] at h1
        simp only [Option.some.injEq, Obj.cells.injEq] at h1
        rw [h1.2.1]; exact hr'
      · rw [if_neg hg]
        exact ⟨hc.sub _ hr2.1, by rw [hc.block _ hr2.1 hg]; exact hr2.2⟩
    · by_cases hg : g2 = g
      · subst hg
        rw [if_pos rfl, hl, ← hlen]
        have h1 := hr.2
        rw [hr2.2] at h1
        simp only [Option.some.injEq, Obj.cells.injEq] at h1
        have := congrArg List.length (congrArg Array.toList h1.1)
        simpa using this.symm
      · rw [if_neg hg]; exact hlen
theorem Own.neRow {w : World} {X Y : XS} {lo e e' k g : Nat} {v : Value} {rows : List (List Value)} {cs : List Value} (h : Own w X lo e k v rows) (hr : RowIs w Y g cs e') (he : decide (e ≠ e') = true) : v.ownBlock ≠ some g := fun hg => by
  obtain ⟨c, h1⟩ := Own.tag h hg
  rw [hr.2] at h1
  simp only [Option.some.injEq, Obj.cells.injEq] at h1
  exact of_decide_eq_true he h1.2.1.symm
theorem m_lnL {P : Program} {X : XS} {w : World} {t ty : TypeId} {base : Option Addr} {n cap : Nat} {N : Value → Prop} (ht : P.underlying t = some (.slice (P.elem t))) (k : N (I n)) : rdV P X w (lnS t ty (.slice base n cap)) N :=
  by
  unfold lnS
  exact rdV_pure (fun wa => run_len_slice wa t ty base n cap ht) k
theorem PV.pendsIn {w : World} {X : XS} {e lo : Nat} {v : Value} {xs : List PV} (ho : Own w X lo e 8 v (xs.map PV.l)) (hx : ∀ x ∈ xs, x.in w X) : Pends w X v (xs.map (·.p)) := by
  refine ⟨xs.map PV.l, ho.sl, by simp, fun i r x hr hx' => ?_⟩
  simp only [List.getElem?_map, Option.map_eq_some_iff] at hr hx'
  obtain ⟨y, hy, rfl⟩ := hr
  obtain ⟨y', hy', rfl⟩ := hx'
  rw [hy] at hy'; cases hy'
  exact ⟨_, _, rfl, (hx y (List.mem_of_getElem? hy)).1, (hx y (List.mem_of_getElem? hy)).2⟩
theorem Shp.chgT {w w' : World} {X X' Y : XS} {lo e e' k n g : Nat} {v : Value} {cs : List Value} (h : Shp w X lo e k v n) (hc : Chg (fun k => k = g) X w X' w') (hr : RowIs w Y g cs e') (he : decide (e' ≠ e) = true) : Shp w' X' lo e k v n := by
  rcases h with h | ⟨g2, cap, cs2, hv, hlo, hr2, hn, hlen⟩
  · exact .inl h
  · refine .inr ⟨g2, cap, cs2, hv, hlo, ⟨hc.sub _ hr2.1, ?_⟩, hn, hlen⟩
    rw [hc.block _ hr2.1 (fun hg => ?_)]
    · exact hr2.2
    · have hg : g2 = g := hg
      subst hg
      have h1 := hr.2
      rw [hr2.2] at h1
      simp only [Option.some.injEq, Obj.cells.injEq] at h1
      exact of_decide_eq_true he h1.2.1.symm
structure Spl (w : World) (X : XS) (lo : Nat) (vo : Value) (rows xs : List PV) : Prop where
  o : Own w X lo 87 8 vo (rows.map PV.l)
  sh : ∀ x ∈ xs, Shp w X lo 66 4 (.slice x.bw x.nw x.cw) x.p.writes.length
theorem Spl.since {w w' : World} {X Y : XS} {lo : Nat} {vo : Value} {rows xs : List PV} (h : Spl w X lo vo rows xs) (hs : Since X w Y w') : Spl w' Y lo vo rows xs := ⟨h.o.since hs, fun x hx => (h.sh x hx).mv hs.mv⟩
def PV.zero : PV := ⟨⟨⟨0, 0, 0⟩, .zero, [], []⟩, none, 0, 0, none, 0, 0⟩
theorem stands_pends {w wa w2 : World} {X X2 A : XS} {sb : Nat} {vo v : Value} {s : TailS} {zs : List OV} (h : RTl w X A sb vo s zs) (hs : Since X w X2 w2) (ho : Own w2 (made wa w2) wa.heap.size 87 8 v (zs.map fun z => z.1.l)) (hin : ∀ k, made wa w2 k → X2 k) :
    Pends w2 X2 v ((oc zs).map (·.1)) := by
  have e : (zs.map fun z => z.1.l) = (zs.map fun z => z.1).map PV.l := by simp
  have e2 : (oc zs).map (·.1) = (zs.map fun z => z.1).map (·.p) := by simp [oc]
  rw [e] at ho
  rw [e2]
  refine PV.pendsIn (lo := wa.heap.size) (ho.mono hin) fun x hx => ?_
  obtain ⟨z, hz, rfl⟩ := List.mem_map.1 hx
  exact (h.zin' hz).mv hs.mv
theorem d_racelaw18_stands {w : World} {X A Z : XS} {t : Value} {sb : Nat} {vo : Value} {s : TailS} {c : Cont} {zs : List OV} {b : Nat} (hT : TailAt w X Z t s c) (hR : RTl w X A sb vo s zs) (hi : InvC b c) (hb : b ≤ 2 ^ 36) (hrel : Rel c (oc zs)) (hX : ∀ k, X k → k < w.heap.size) :
    Ct Tryz.prog 14 #[t, ptr sb 0] w X nX fun v _ _ => v = B true := by
  intro w0 hk
  have hnd := hT.nodup
  have hzl : zs.length ≤ 2 ^ 36 := by
    have h1 := hrel.perm.length_eq
    have h2 := hi.len
    simp only [oc, List.length_map] at h1
    omega
  replace hT := hT.since hX ⟨hk, fun k h => Nat.lt_of_lt_of_le (hX k h) hk.size, fun k (h : old w0 k) => h⟩
  replace hR := hR.mv hk.mvo hk.size
  have hneed := hrel.need s.next
  have hres := hrel.res s.closed
  have hopen := hrel.opens hi.key hnd
  obtain ⟨tb, rfl⟩ := hT.form
  apply ok_racelaw18_stands; unfold vc_racelaw18_stands
  have hs := Since.init w0
  refine l_Open hT hi (by omega) hs.has fun v w1 X1 xs hs1 hT1 ho hxs hop => ?_
  have hs0 := hs.trans hs1
  have hT0 := hT
  have hR0 := hR
  replace hR := hR.mv hs1.mv hs1.kp.size
  have hX1 := hs0.has
  have hpo : Pends w1 X1 v (opensC c) := by rw [← hop]; exact PV.pends ho hxs
  have hS : Spl w1 X1 w0.heap.size v xs xs := ⟨ho, fun x hx => by simpa using Own.shp (hxs x hx).w⟩
  have hbox := hR.box
  have ov := ho.sl.one
  clear hs hs1 hT ho hxs
  have hs := Since.refl' hX1
  have cN : ∀ w X, Since X1 w1 X w → Ct Tryz.prog 44 #[ptr sb 0] w X nX fun v _ _ => v = I (needC s.next c) := fun w X hs => by
    rw [← hneed]; exact d_ref18_Need (hR.mv hs.mv hs.kp.size)
  have cR : ∀ w X, Since X1 w1 X w → Ct Tryz.prog 36 #[ptr sb 0] w X nX fun v _ _ => v = (resC s.closed c).v := fun w X hs => by
    rw [← hres]; exact d_ref18_Resolved (hR.mv hs.mv hs.kp.size)
  have cP : ∀ (u1 u2 : Value) w X, Pends w X u1 (opensC c) → Pends w X u2 (opensC c) → Ct Tryz.prog 20 #[u1, u2] w X nX fun v _ _ => v = B true := fun u1 u2 w X q1 q2 => by
    have := d_raceref_Pendings q1 q2
    simpa using this
  repeat' first | ((with_reducible refine r_neqF ?_ ?_); (· omega)) | with_reducible (first | apply condW_T | apply condW_F | apply un_selF | apply un_selTF | apply grdV_onF | apply grdW_onF | apply grdW_offF | apply rdW_pickT | apply rdW_pickF | apply gE_F | apply gE_TF | apply r_notT | apply r_nil) | ((with_reducible apply m_fld1); (· (first | assumption | exact RowIs.cells (by assumption))); (· kernel_rfl); (· rfl); intro _ _ _) | ((with_reducible apply m_fld); (· (first | assumption | exact RowIs.cells (by assumption))); (· kernel_rfl); (· rfl); (· (simp only [Value.cells, nq1, nq2, nq3, nq4, nq5, nq6, setL, nq7, nq8, nq9, nq0, Nat.reduceAdd, Nat.zero_add]; try rfl)); intro _ _ _) | ((with_reducible apply m_ld1); (· (first | assumption | exact RowIs.cells (by assumption))); (· (first | exact mv0 | exact mv1 (by assumption) | exact mv2 (by assumption) (by assumption))); (· kernel_rfl); (· rfl)) | ((with_reducible apply m_ldA); (· (first | assumption | exact RowIs.cells (by assumption))); (· (first | exact mv0 | exact mv1 (by assumption) | exact mv2 (by assumption) (by assumption))); (· kernel_rfl); (· rfl)) | ((with_reducible refine r_neS _ _ ?_ ?_ ?_); (· kernel_rfl); all_goals intros) | with_reducible apply jn_of | (refine l_Next (hT1.since hX1 hs) hs.has fun w X hs1 _ => ?_; replace hs := hs.trans hs1; clear hs1) | (refine l_Closed (hT1.since hX1 hs) hs.has fun w X hs1 _ => ?_; replace hs := hs.trans hs1; clear hs1) | (refine l_Resolved (hT1.since hX1 hs) hs.has fun w X hs1 _ => ?_; replace hs := hs.trans hs1; clear hs1) | (refine l_Need (hT1.since hX1 hs) hs.has fun w X hs1 _ => ?_; replace hs := hs.trans hs1; clear hs1) | (refine r_ct0V (cN _ _ hs) (by kernel_rfl) hs.has fun w X hs1 => ?_; replace hs := hs.trans hs1; clear hs1) | (refine r_ct0V (cR _ _ hs) (by kernel_rfl) hs.has fun w X hs1 => ?_; replace hs := hs.trans hs1; clear hs1) | (refine r_ct0 (d_ref18_Opens (hR.mv hs.mv hs.kp.size) (by omega)) (by kernel_rfl) hs.has ?_; intro v2 wa w X ho2 hle hin hs1; have hp2 := stands_pends (hR.mv hs.mv hs.kp.size) hs1 ho2 hin; rw [hopen] at hp2; replace hs := hs.trans hs1; clear ho2 hle hin hs1) | (refine r_ct0V (cP _ _ _ _ (hpo.mv hs.mv) hp2) (by kernel_rfl) hs.has fun w X hs1 => ?_; replace hs := hs.trans hs1; clear hs1)
  · rename_i h; first | exact absurd rfl h | exact absurd ⟨rfl, rfl, rfl⟩ h
  · rename_i h; first | exact absurd rfl h | exact absurd ⟨rfl, rfl, rfl⟩ h
  have hsA := hs0.trans hs
  have hSA := hS.since hs
  clear hs hS hs0 hT1 hR hpo hbox cN cR ov hp2 hX1
  refine lp2_of (fun n a b w X => ∃ (i : Nat) (rows : List PV), a = I i ∧ n = xs.length - i ∧ i ≤ xs.length ∧ Since (old w0) w0 X w ∧ Spl w X w0.heap.size v rows xs ∧ rows.length = xs.length ∧ rows.drop i = xs.drop i) xs.length
    ⟨0, xs, rfl, rfl, Nat.zero_le _, hsA, hSA, rfl, rfl⟩ ?_
  clear hsA hSA
  rintro n a b9 w X ⟨i, rows, rfl, rfl, hi9, hs, hS, hlr, hdr⟩
  have hsl := hS.o.sl
  have hln := hsl.len'
  rcases at_or xs i with ⟨hlt, x, hx, hd⟩ | ⟨hge, hd⟩
  · have hxm := List.mem_of_getElem? hx
    have hri : rows[i]? = some x := by
      have := congrArg (fun l => l[0]?) hdr
      simpa [hx] using this
    repeat' first | ((with_reducible refine r_lssT ?_ ?_); (· omega)) | with_reducible apply condW_T | ((with_reducible apply m_lnS); (· (first | assumption | exact Own.sl (by assumption))); (· kernel_rfl))
    refine lp1_of (fun n' a w X => ∃ (k : Nat), a = I k ∧ n' = x.p.writes.length - k ∧ k ≤ x.p.writes.length ∧ Since (old w0) w0 X w ∧ Spl w X w0.heap.size v rows xs) x.p.writes.length ⟨0, rfl, rfl, Nat.zero_le _, hs, hS⟩ ?_
    clear hs hS hsl
    rintro n' a w X ⟨k, rfl, rfl, hk2, hs, hS⟩
    have hsl := hS.o.sl
    have hSx := hS.sh x hxm
    have o9 : Eng.one (.slice x.bw x.nw x.cw) = true := rfl
    by_cases hlt2 : k < x.p.writes.length
    · rcases hSx with ⟨_, h0⟩ | ⟨g, cap, cs, hv, hlo, hrow, hn, hlen⟩
      · omega
      have hnw : x.nw = x.p.writes.length := by injection hv
      repeat' first | ((with_reducible refine r_lssT ?_ ?_); (· omega)) | with_reducible apply condW_T | ((with_reducible apply m_fld1); (· (first | assumption | exact RowIs.cells (by assumption))); (· kernel_rfl); (· rfl); intro _ _ _) | ((with_reducible apply m_ld1); (· (first | assumption | exact RowIs.cells (by assumption))); (· (first | exact mv0 | exact mv1 (by assumption) | exact mv2 (by assumption) (by assumption))); (· kernel_rfl); (· rfl)) | ((with_reducible apply m_ixS); (· (first | assumption | exact Own.sl (by assumption))); (try (case hz => rfl)); (case hr => first | assumption | exact List.getElem?_eq_getElem (by omega)); (try (case hz => omega)); (case ht => kernel_rfl); (case hs => kernel_rfl); intro _ _ _) | ((with_reducible apply r_bld); (· kernel_rfl)) | ((with_reducible apply m_lnL); (· kernel_rfl))
      rw [hv]
      refine m_ixO (i := k) rfl (by omega) (by kernel_rfl) (by kernel_rfl) ?_
      refine m_st1 hrow (by kernel_rfl) (by
        have : k * 4 + 4 ≤ x.p.writes.length * 4 := by omega
        have : x.p.writes.length * 4 ≤ cap * 4 := Nat.mul_le_mul_right 4 hn.1
        omega) rfl rfl hs.has fun w2 X2 hc hr => ?_
      have hs2 := hs.chg hc fun q hq e => by
        have : q < w0.heap.size := hq
        omega
      have hS2 : Spl w2 X2 w0.heap.size v rows xs := ⟨hS.o.chg hc fun q hq e => Own.neRow hS.o hrow (by kernel_rfl) (by rw [hq, e]), fun y hy => (hS.sh y hy).st hc hrow hr (len_setL (by
        show k * 4 + 4 ≤ cs.length
        have : k * 4 + 4 ≤ x.p.writes.length * 4 := by omega
        have : x.p.writes.length * 4 ≤ cap * 4 := Nat.mul_le_mul_right 4 hn.1
        omega))⟩
      replace hs := hs2
      have hkn := hn.2
      have hkn1 := hn.1
      clear hs2 hsl
      repeat' first | ((with_reducible apply r_add); (· omega); (· omega))
      exact nx1_of (x.p.writes.length - (k + 1)) (by omega) ⟨k + 1, by simp, rfl, by omega, hs, hS2⟩
    · have hnw : x.nw = x.p.writes.length := by
        rcases hSx with ⟨hv, h0⟩ | ⟨g, cap, cs, hv, hlo, hrow, hn, hlen⟩
        · injection hv with _ e _
          rw [e, h0]
        · injection hv
      refine m_ixS hsl hri rfl (by kernel_rfl) (by kernel_rfl) fun b8 o8 hcell => ?_
      clear hsl
      repeat' first | ((with_reducible refine r_lssF ?_ ?_); (· omega)) | with_reducible apply condW_F | ((with_reducible apply m_fld1); (· (first | assumption | exact RowIs.cells (by assumption))); (· kernel_rfl); (· rfl); intro _ _ _) | ((with_reducible apply m_ld1); (· (first | assumption | exact RowIs.cells (by assumption))); (· (first | exact mv0 | exact mv1 (by assumption) | exact mv2 (by assumption) (by assumption))); (· kernel_rfl); (· rfl)) | ((with_reducible apply r_bld); (· kernel_rfl)) | ((with_reducible apply m_lnL); (· kernel_rfl))
      rcases hS.o.row with ⟨hv0, hnil⟩ | ⟨g, cap, cs, hv, hlo, hrow, hn, hcm, hlen, _⟩
      · rw [List.map_eq_nil_iff] at hnil
        rw [hnil] at hri; simp at hri
      subst hv
      have hri' : (rows.map PV.l)[i]? = some (PV.l x) := by rw [List.getElem?_map, hri]; rfl
      refine m_ixO (i := i) rfl (by simp; omega) (by kernel_rfl) (by kernel_rfl) ?_
      refine m_stO (i := i) (o := 0) hS.o hri' rfl (by kernel_rfl) (by omega) (by omega) rfl rfl hs.has fun w2 X2 hc ho2 => ?_
      have hs2 := hs.chg hc fun q hq e => by
        have : q < w0.heap.size := hq
        omega
      have hS2 : Spl w2 X2 w0.heap.size (.slice (some ⟨g, 0, none⟩) (rows.map PV.l).length cap) (rows.set i PV.zero) xs := ⟨by rw [List.map_set]; exact ho2, fun y hy => (hS.sh y hy).chgT hc hrow (by kernel_rfl)⟩
      replace hs := hs2
      clear hs2
      repeat' first | ((with_reducible apply r_add); (· omega); (· omega))
      refine nx2_of (xs.length - (i + 1)) (by omega) ⟨i + 1, rows.set i PV.zero, by simp, rfl, by omega, hs, hS2, by rw [List.length_set]; exact hlr, ?_⟩
      rw [List.drop_set_of_lt (by omega)]
      have := congrArg (List.drop 1) hdr
      simpa [List.drop_drop, Nat.add_comm] using this
  · repeat' first | ((with_reducible refine r_lssF ?_ ?_); (· omega)) | with_reducible apply condW_F | ((with_reducible apply m_lnS); (· (first | assumption | exact Own.sl (by assumption))); (· kernel_rfl))
    have h0 : ∀ k, old w0 k → k < w0.heap.size := fun k hk => hk
    refine l_Open (hT0.since h0 hs) hi (by omega) hs.has fun v3 w3 X3 ys hs3 _ ho3 hys hop3 => ?_
    have hp3 : Pends w3 X3 v3 (opensC c) := by rw [← hop3]; exact PV.pends ho3 hys
    have hsB := hs.trans hs3
    have hR3 := hR0.mv hsB.mv hsB.kp.size
    refine r_ct0 (d_ref18_Opens hR3 (by omega)) (by kernel_rfl) hsB.has fun v4 wa w4 X4 ho4 hle4 hin4 hs4 => ?_
    have hp4 := stands_pends hR3 hs4 ho4 hin4
    rw [hopen] at hp4
    have hsC := hsB.trans hs4
    refine r_ct0V (cP _ _ _ _ (hp3.mv hs4.mv) hp4) (by kernel_rfl) hsC.has fun w5 X5 hs5 => ?_
    exact fin_ret0 (hsC.trans hs5) fun wb hkb => rfl
end Go.Proofs.YtnphlhpdikmpiaaGreat
namespace Go.Proofs.YtnphlhpdikmpiaaGreat
open Go.Eng
set_option maxRecDepth 100000
set_option maxHeartbeats 1000000
set_option linter.unusedVariables false
set_option linter.unusedSimpArgs false
attribute [local irreducible] un jn chk fld ld1 ldA st1 ixS lnS lnT bld cvI cvF ixA bsS apS rdV rdW grdW eW eV eU eC eF gE condW fin pickN nilN binS vS lp0 lp1 lp2 lp3 lp4 lp5 lp6 lp7 nx0 nx1 nx2 nx3 nx4 nx5 nx6 nx7
theorem TailAt.chg {w w' : World} {X X' Z F : XS} {t : Value} {s : TailS} {c : Cont} (h : TailAt w X Z t s c) (hc : Chg F X w X' w') (hF : ∀ k, F k → Z k) : TailAt w' X' Z t s c := by
  obtain ⟨tb, mb, m, h1, h2, h3, h4, h5⟩ := h
  have hX : ∀ k, ftp tb mb m k → X k ∧ k < w.heap.size := fun k hk => by
    rcases hk with rfl | rfl | hk
    · exact ⟨h2.box.1, h2.box.lt⟩
    · exact h2.opn.x
    · exact ⟨h2.sub k hk, (h2.fp k hk).2⟩
  exact ⟨tb, mb, m, h1, (h2.tight).mv (fun k hk => (hX k hk).2) fun k hk _ => ⟨hc.sub k (hX k hk).1, hc.block k (hX k hk).1 fun hf => h5 k hk (hF k hf)⟩, h3, h4, h5⟩
section
variable {w : World} {X Z : XS} {t : Value} {s : TailS} {c : Cont} {R : Ending → World → Prop} {N : Value → World → XS → Prop}
theorem l_FeedZ {b : Nat} {n : Int} {r : Rec} {vr vw vp vq vh vd : Value} (h : TailAt w X Z t s c) (hZ : ∀ k, Z k → X k) (hX : ∀ k, X k → k < w.heap.size) (ha : r.at w Z vr vw vp vq vh vd) (hsm : r.small) (hi : InvC b c) (hb : b ≤ 2 ^ 40) (hnx : 1 ≤ s.next)
    (n0 : mayC s c n r ≠ 0 → ∀ w' X', Since Z w X' w' → TailAt w' X' Z t s c → N (.tuple #[ToldS.none.v (.slice none 0 0), I (mayC s c n r)]) w' X')
    (n1 : mayC s c n r = 0 → ∀ vw' w' X', Since Z w X' w' → TailAt w' X' Z t (feedS s r) (feedC n r c) → Sl w' (fun k => X' k ∧ ¬ Z k) 4 vw' ((feedTold s r c).writes.map KV.l) → InvC (b + r.state.pend.length + 1) (feedC n r c) → N (.tuple #[(feedTold s r c).v vw', I 0]) w' X') :
    eC Tryz.prog R X w true 10 #[t, I n, r.v vr vw vp vq vh vd] N := by
  have hif := hi.feed hsm n
  obtain ⟨tb, mb, m, rfl, h2, h3, rfl, h5⟩ := h
  have hFX : ∀ k, ftp tb mb m k → X k := fun k hk => by
    rcases hk with rfl | rfl | hk
    · exact h2.box.1
    · exact h2.opn.x.1
    · exact h2.sub k hk
  refine r_ct (d_tail_Feed h2 hX ha (fun k hk => ⟨hZ k hk, fun hf => h5 k hf hk⟩) hsm h3 (OkC.m hi.ok) (by have := hi.len; simp at this; omega) hnx) (by kernel_rfl) hX hFX ?_
  intro v wa w' X' hq hle hin hkp hc
  have hs : Since Z w X' w' := hc.since fun k hk => ⟨hZ k hk, fun hf => h5 k hf hk⟩
  unfold FeedQ at hq
  rw [mayErr_cont] at hq
  split at hq
  · obtain ⟨rfl, hT⟩ := hq
    exact n0 (by assumption) w' X' hs ⟨tb, mb, m, rfl, hT.wide fun k hk => hc.sub k (hFX k hk), h3, rfl, h5⟩
  · obtain ⟨m', vw', rfl, hsl, hcont, hsep, hfp, hT⟩ := hq
    have hX' : ∀ k, ftp tb mb m' k → X' k := fun k hk => by
      rcases hk with rfl | rfl | hk
      · exact hc.sub _ h2.box.1
      · exact hc.sub _ h2.opn.x.1
      · rcases hfp k hk with h | h
        · exact hc.sub _ (h2.sub k h)
        · exact hin k ⟨h, (hT.fp k hk).2⟩
    refine n1 (by simpa using ‹¬ mayC s (cont m) n r ≠ 0›) vw' w' X' hs ⟨tb, mb, m', rfl, hT.wide hX', hsep, hcont, fun k hk hz => ?_⟩ (hsl.sub fun k hk hl => ?_) hif
    · rcases hk with rfl | rfl | hk
      · exact h5 _ (.inl rfl) hz
      · exact h5 _ (.inr (.inl rfl)) hz
      · rcases hfp k hk with h | h
        · exact h5 k (.inr (.inr h)) hz
        · have := hX k (hZ k hz); omega
    · rcases hk with h | h
      · exact ⟨hc.sub k (h2.sub k h), h5 k (.inr (.inr h))⟩
      · exact ⟨hin k ⟨h, hl⟩, fun hz => by have := hX k (hZ k hz); omega⟩
theorem l_RFeed {A Z' : XS} {sb : Nat} {vo : Value} {zs : List OV} {n : Int} {r : Rec} {vr vw vp vq vh vd : Value} (h : RTl w X A sb vo s zs) (hX : ∀ k, X k → k < w.heap.size) (ha : r.at w Z' vr vw vp vq vh vd) (hZ : ∀ k, Z' k → X k ∧ ¬ fo sb vo k) (hf : r.fit) (hzl : zs.length ≤ 2 ^ 38) (hnx : 1 ≤ s.next) (hok : ∀ z ∈ zs, z.1.p.ok)
    (n0 : refO s (oc zs) n r ≠ 0 → ∀ w' X', Chg (fo sb vo) X w X' w' → RTl w' X' A sb vo s zs → N (.tuple #[ToldS.none.v (.slice none 0 0), I (refO s (oc zs) n r)]) w' X')
    (n1 : refO s (oc zs) n r = 0 → ∀ vw' vo' zs' A' w' X', Chg (fo sb vo) X w X' w' → RTl w' X' A' sb vo' (feedS s r) zs' → oc zs' = feedO n r (oc zs) → (∀ k, fo sb vo' k ∨ A' k → fo sb vo k ∨ A k ∨ w.heap.size ≤ k) →
      Sl w' (fun k => X' k ∧ (A k ∨ w.heap.size ≤ k)) 4 vw' ((toldO s r (oc zs)).writes.map KV.l) → N (.tuple #[(toldO s r (oc zs)).v vw', I 0]) w' X') :
    eC Tryz.prog R X w true 11 #[ptr sb 0, I n, r.v vr vw vp vq vh vd] N := by
  have hfo : ∀ k, fo sb vo k → X k := fun k hk => by
    rcases hk with hk | hk
    · rw [hk]; exact h.box.1
    · exact h.ow.2.2 k hk
  refine r_ct (d_ref18_Feed h ha hZ hf hzl hnx hok) (by kernel_rfl) hX hfo fun v wa w' X' hq hle hin hkp hc => ?_
  unfold FeedR at hq
  split at hq
  · obtain ⟨rfl, hT⟩ := hq
    refine n0 (by assumption) w' X' hc (hT.to (hc.sub _ h.box.1) (fun k hk => hc.sub k (h.sub k hk).1) fun g hg => hc.sub g (h.ow.2.2 g hg))
  · obtain ⟨vw', vo', zs', A', rfl, hsl, hoc, hA', hT⟩ := hq
    have hvo : ∀ g, vo'.ownBlock = some g → fo sb vo g ∨ A g ∨ w.heap.size ≤ g := fun g hg => by
      rcases hT.ow.2.2 g hg with h | h | h | h
      · exact .inl (.inl h)
      · exact .inr (.inl h)
      · exact .inl (.inr h)
      · exact .inr (.inr (by omega))
    refine n1 (by simpa using ‹¬ refO s (oc zs) n r ≠ 0›) vw' vo' zs' A' w' X' hc (hT.to (hc.sub _ h.box.1) (fun k hk => ?_) fun g hg => ?_) hoc (fun k hk => ?_) (hsl.sub fun k hk hl => ?_)
    · rcases hA' k hk with h' | h'
      · exact hc.sub k (h.sub k h').1
      · exact hin k ⟨h', (hT.sub k hk).2.1⟩
    · rcases hT.ow.2.2 g hg with h' | h' | h' | h'
      · rw [h']; exact hc.sub _ h.box.1
      · exact hc.sub g (h.sub g h').1
      · exact hc.sub g (h.ow.2.2 g h')
      · exact hin g ⟨h', (hT.ow.ge hg).2⟩
    · rcases hk with (hk | hk) | hk
      · exact .inl (.inl hk)
      · exact hvo k hk
      · rcases hA' k hk with h' | h'
        · exact .inr (.inl h')
        · exact .inr (.inr (by omega))
    · rcases hk with h' | h'
      · exact ⟨hc.sub k (h.sub k h').1, .inl h'⟩
      · exact ⟨hin k ⟨h', hl⟩, .inr (by omega)⟩
end
theorem Rel.okO {c : Cont} {l : OC} (h : Rel c l) (ho : OkC c) : ∀ x ∈ l, x.1.ok := fun x hx => by
  obtain ⟨e, he, rfl⟩ := List.mem_map.1 (h.perm.mem_iff.1 hx)
  exact ho e he
def stepS (s : TailS) (c : Cont) (n : Int) (r : Rec) : TailS := if mayC s c n r = 0 then feedS s r else s
def stepC (s : TailS) (c : Cont) (n : Int) (r : Rec) : Cont := if mayC s c n r = 0 then feedC n r c else c
def stepT (s : TailS) (c : Cont) (n : Int) (r : Rec) : ToldS := if mayC s c n r = 0 then feedTold s r c else .none
theorem mayC_next {s : TailS} {c : Cont} {n : Int} {r : Rec} (h : mayC s c n r = 0) : n = s.next ∧ n ≤ 99999999 := by
  unfold mayC at h
  split at h
  · cases h
  · omega
theorem stepS_next {s : TailS} {c : Cont} {n : Int} {r : Rec} (h1 : 1 ≤ s.next) (h2 : s.next ≤ 100000000) : 1 ≤ (stepS s c n r).next ∧ (stepS s c n r).next ≤ 100000000 := by
  unfold stepS
  split
  · rename_i h
    have := mayC_next h
    have e : (feedS s r).next = s.next + 1 := rfl
    omega
  · exact ⟨h1, h2⟩
section
variable {w : World} {X Z : XS} {t : Value} {s : TailS} {c : Cont} {R : Ending → World → Prop} {N : Value → World → XS → Prop}
theorem l_FeedU {b : Nat} {n : Int} {r : Rec} {vr vw vp vq vh vd : Value} (h : TailAt w X Z t s c) (hZ : ∀ k, Z k → X k) (hX : ∀ k, X k → k < w.heap.size) (ha : r.at w Z vr vw vp vq vh vd) (hsm : r.small) (hi : InvC b c) (hb : b ≤ 2 ^ 40) (hnx : 1 ≤ s.next)
    (k : ∀ vw' w' X', Since Z w X' w' → TailAt w' X' Z t (stepS s c n r) (stepC s c n r) → Sl w' (fun k => X' k ∧ ¬ Z k) 4 vw' ((stepT s c n r).writes.map KV.l) → InvC (b + r.state.pend.length + 1) (stepC s c n r) → N (.tuple #[(stepT s c n r).v vw', I (mayC s c n r)]) w' X') :
    eC Tryz.prog R X w true 10 #[t, I n, r.v vr vw vp vq vh vd] N := by
  refine l_FeedZ h hZ hX ha hsm hi hb hnx (fun hm w' X' hs hT => ?_) fun hm vw' w' X' hs hT hsl hi' => ?_
  · have := k (.slice none 0 0) w' X' hs
    unfold stepS stepC stepT at this
    simp only [hm, if_false] at this
    exact this hT (Sl.nil _ _ _) (hi.up (by omega))
  · have := k vw' w' X' hs
    unfold stepS stepC stepT at this
    simp only [hm, if_true] at this
    exact this hT hsl hi'
theorem l_RFeedU {A Z' : XS} {sb : Nat} {vo : Value} {zs : List OV} {n : Int} {r : Rec} {vr vw vp vq vh vd : Value} (h : RTl w X A sb vo s zs) (hX : ∀ k, X k → k < w.heap.size) (ha : r.at w Z' vr vw vp vq vh vd) (hZ : ∀ k, Z' k → X k ∧ ¬ fo sb vo k) (hf : r.fit) (hzl : zs.length ≤ 2 ^ 38) (hnx : 1 ≤ s.next)
    (hrel : Rel c (oc zs)) (hkey : KeyC c) (hokc : OkC c) (hnd : (c.map (·.1)).Nodup)
    (k : ∀ vw' vo' zs' A' w' X', Chg (fo sb vo) X w X' w' → RTl w' X' A' sb vo' (stepS s c n r) zs' → Rel (stepC s c n r) (oc zs') → (∀ k, fo sb vo' k ∨ A' k → fo sb vo k ∨ A k ∨ w.heap.size ≤ k) →
      Sl w' (fun k => X' k ∧ (A k ∨ w.heap.size ≤ k)) 4 vw' ((stepT s c n r).writes.map KV.l) → N (.tuple #[(stepT s c n r).v vw', I (mayC s c n r)]) w' X') :
    eC Tryz.prog R X w true 11 #[ptr sb 0, I n, r.v vr vw vp vq vh vd] N := by
  have hmay := hrel.may hkey s n r
  refine l_RFeed h hX ha hZ hf hzl hnx (fun z hz => hrel.okO hokc (z.1.p, z.2) (List.mem_map.2 ⟨z, hz, rfl⟩)) (fun hm w' X' hc hT => ?_) fun hm vw' vo' zs' A' w' X' hc hT hoc hA hsl => ?_
  · have := k (.slice none 0 0) vo zs A w' X' hc
    rw [hmay] at hm ⊢
    unfold stepS stepC stepT at this
    simp only [hm, if_false] at this
    exact this hT hrel (fun k hk => by rcases hk with h | h; exact .inl h; exact .inr (.inl h)) (Sl.nil _ _ _)
  · have := k vw' vo' zs' A' w' X' hc
    rw [hmay] at hm
    rw [hrel.told hkey hnd] at hsl ⊢
    unfold stepS stepC stepT at this
    simp only [hm, if_true] at this
    refine this hT ?_ hA hsl
    rw [hoc]
    exact hrel.feed hkey hnd hm
end
theorem Since.cut {X0 Z X X' : XS} {w0 w w' : World} (h : Since X0 w0 X w) (hz : ∀ k, X0 k → Z k) (h2 : Since Z w X' w') : Since X0 w0 X' w' := ⟨h.kp.trans (h2.kp.less hz), fun k hk => h2.sub k (hz k hk), h2.has⟩
end Go.Proofs.YtnphlhpdikmpiaaGreat
namespace Go.Proofs.YtnphlhpdikmpiaaGreat
open Go.Eng
set_option maxRecDepth 100000
set_option maxHeartbeats 1000000
set_option linter.unusedVariables false
set_option linter.unusedSimpArgs false
attribute [local irreducible] un jn chk fld ld1 ldA st1 ixS lnS lnT bld cvI cvF ixA bsS apS rdV rdW grdW eW eV eU eC eF gE condW fin pickN nilN binS vS lp0 lp1 lp2 lp3 lp4 lp5 lp6 lp7 nx0 nx1 nx2 nx3 nx4 nx5 nx6 nx7
def rb (w0 : World) (sb : Nat) (vo : Value) (A : XS) : XS := fun k => k < w0.heap.size ∨ fo sb vo k ∨ A k
structure Both (w0 w : World) (X : XS) (tb sb : Nat) (s : TailS) (c : Cont) (A : XS) (vo : Value) (zs : List OV) (b : Nat) : Prop where
  tail : TailAt w X (rb w0 sb vo A) (ptr tb 0) s c
  ref : RTl w X A sb vo s zs
  rel : Rel c (oc zs)
  inv : InvC b c
  lo : 1 ≤ s.next
  hi : s.next ≤ 100000000
  new : ∀ k, fo sb vo k ∨ A k → w0.heap.size ≤ k
theorem Both.since {w0 w w' : World} {X X' : XS} {tb sb : Nat} {s : TailS} {c : Cont} {A : XS} {vo : Value} {zs : List OV} {b : Nat} (h : Both w0 w X tb sb s c A vo zs b) (hX : ∀ k, X k → k < w.heap.size) (hs : Since X w X' w') : Both w0 w' X' tb sb s c A vo zs b :=
  ⟨h.tail.since hX hs, h.ref.mv hs.mv hs.kp.size, h.rel, h.inv, h.lo, h.hi, h.new⟩
theorem Both.ozl {w0 w : World} {X : XS} {tb sb : Nat} {s : TailS} {c : Cont} {A : XS} {vo : Value} {zs : List OV} {b : Nat} (h : Both w0 w X tb sb s c A vo zs b) : zs.length ≤ b := by
  have h1 := h.rel.perm.length_eq
  have h2 := h.inv.len
  simp only [oc, List.length_map] at h1
  omega
theorem r_bneqS {P : Program} {X : XS} {w : World} {N : Value → Prop} {t : TypeId} {xo yo : Operand} {a : Bool} (ht : P.underlying t = some .bool) (hF : N (.bool false)) : rdV P X w (binS .neq t xo yo (.bool a) (.bool a)) N := by
  refine rdV_pure (v := .bool false) (fun wa => ?_) hF
  have := run_neq_bool (P := P) (w := wa) t a a ht
  simp [binS, eqGuard, this]
theorem d_racelaw18_TailPlays {w : World} {X : XS} {id next : Int} {v1 v2 : Value} {xs : List Rec} {zs : List Int} (h1 : Rws w X 29 v1 Rec.rd xs) (h2 : Sl w X 1 v2 (zs.map I1)) (hft : ∀ r ∈ xs, r.fit) (hl : (xs.map loadOf).sum ≤ 2 ^ 30) (hxl : xs.length ≤ 2 ^ 30) :
    Ct Tryz.prog 3 #[I id, I next, v1, v2] w X nX fun v _ _ => v = B true := by
  intro w0 hk
  replace h1 := Rws.mv h1 Rec.mv hk.mvo
  replace h2 := h2.mv hk.mvo
  have hl1 := h1.len
  have hl2 := h2.len'
  apply ok_racelaw18_TailPlays; unfold vc_racelaw18_TailPlays
  have hs := Since.init w0
  repeat' first | with_reducible (first | apply condW_T | apply condW_F | apply r_notT | apply r_notF) | (refine r_ct0V ((d_racelaw18_first) ) (by kernel_rfl) hs.has ?_; intro w X hs1; replace hs := hs.trans hs1) | ((first | (with_reducible refine fin_ret0 hs ?_) | (with_reducible refine fin_ret0 (hs0.trans hs) ?_)); intro wa hk; rfl) | (refine r_ct0 (d_racelaw18_Few (h1.mv Rec.mv hs.mv)) (by kernel_rfl) hs.has ?_; rintro _ wa w X ⟨b, rfl⟩ hle hin hs1; replace hs := hs.trans hs1; cases b)
  refine l_New id next hs.has (fun hbad w X hs1 => ?_) fun n1 n2 n3 n4 t w X hs1 hT => ?_
  · replace hs := hs.trans hs1
    have hbad2 : id < 1 ∨ id > 12 ∨ next < 1 ∨ next > 100000000 := hbad
    repeat' first | ((with_reducible refine r_neqF ?_ ?_); (· omega)) | with_reducible (first | apply condW_T | apply condW_F | apply un_selF | apply grdV_onF | apply rdW_pickF) | ((with_reducible apply m_ext); (· rfl)) | ((with_reducible apply m_pnilT); (· kernel_rfl)) | (refine r_ct0 (d_ref18_New id next) (by kernel_rfl) hs.has ?_; intro v wa w X hq hle hin hs1; rw [if_pos hbad2] at hq; subst hq; replace hs := hs.trans hs1) | (refine r_ct0V ((d_racelaw18_first) ) (by kernel_rfl) hs.has ?_; intro w X hs1; replace hs := hs.trans hs1) | ((first | (with_reducible refine fin_ret0 hs ?_) | (with_reducible refine fin_ret0 (hs0.trans hs) ?_)); intro wa hk; rfl) | ((with_reducible apply r_bneqS); (· kernel_rfl))
  · have hsA := hs
    replace hs := hs.trans hs1
    have hX0 := hs.has
    repeat' first | ((with_reducible apply m_ext); (· rfl))
    refine r_ct0 (d_ref18_New id next) (by kernel_rfl) hs.has ?_
    intro v wa w X hq hle hin hs2
    rw [if_neg (by omega)] at hq
    obtain ⟨sb, rfl, hR⟩ := hq
    obtain ⟨tb, rfl⟩ := hT.form
    have hszA := hsA.kp.size
    have hszB := hs1.kp.size
    have hB : Both w0 w X tb sb ⟨id, next, .zero⟩ [] nX (.slice none 0 0) [] 0 := by
      refine ⟨((hT.fresh hX0).since hX0 hs2).sub fun k hk hl => ?_, hR.to (hin _ hR.box.1) (fun k hk => hk.elim) (fun g hg => by cases hg), Rel.nil, InvC.nil 0, n3, n4, fun k hk => ?_⟩
      · rcases hk with hk | (hk | hk) | hk
        · exact .inl (show k < _ by omega)
        · right; rw [hk]; have := hR.box.1.1; omega
        · cases hk
        · exact hk.elim
      · rcases hk with (hk | hk) | hk
        · rw [hk]; have := hR.box.1.1; omega
        · cases hk
        · exact hk.elim
    replace hs := hs.trans hs2
    clear hT hR hs1 hs2 hsA hX0
    repeat' first | ((with_reducible refine r_neqF ?_ ?_); (· omega)) | with_reducible (first | apply condW_F | apply un_selF | apply grdV_onF | apply rdW_pickF) | ((with_reducible apply m_ext); (· rfl)) | ((with_reducible apply m_pnilF); (· kernel_rfl)) | ((with_reducible apply r_bneqS); (· kernel_rfl))
    refine lp2_of (fun n a b9 w X => ∃ (i : Nat) (s : TailS) (c : Cont) (A : XS) (vo : Value) (os : List OV), a = I i ∧ n = xs.length - i ∧ i ≤ xs.length ∧ Since (old w0) w0 X w ∧ Both w0 w X tb sb s c A vo os (((xs.take i).map loadOf).sum)) xs.length
      ⟨0, _, _, _, _, _, rfl, rfl, Nat.zero_le _, hs, hB⟩ ?_
    clear hs hB
    rintro n a b9 w X ⟨i, s, c, A, vo, os, rfl, rfl, hi, hs, hB⟩
    have hbox := hB.ref.box
    have hlo := hB.lo
    have hhi := hB.hi
    have hX := hs.has
    rcases at_or xs i with ⟨hlt, x, hx, hd⟩ | ⟨hge, hd⟩
    · have hxf := hft x (List.mem_of_getElem? hx)
      have hb := load_le xs i
      have hb1 := load_step hx
      repeat' first | ((with_reducible refine r_lssT ?_ ?_); (· omega)) | with_reducible (first | apply condW_T | apply r_nil) | ((with_reducible apply m_fld1); (· (first | assumption | exact RowIs.cells (by assumption))); (· kernel_rfl); (· rfl); intro _ _ _) | ((with_reducible apply m_ld1); (· (first | assumption | exact RowIs.cells (by assumption))); (· (first | exact mv0 | exact mv1 (by assumption) | exact mv2 (by assumption) (by assumption))); (· kernel_rfl); (· rfl)) | ((with_reducible apply m_lnR); (· assumption); (· kernel_rfl))
      refine jn_by (fun k => ∀ z : Int, k (I z)) ?_ ?_
      · intro z
        clear hbox
        repeat' first | ((with_reducible apply m_ldA); (· (first | assumption | exact RowIs.cells (by assumption))); (· (first | exact mv0 | exact mv1 (by assumption) | exact mv2 (by assumption) (by assumption))); (· kernel_rfl); (· rfl)) | ((with_reducible apply m_ixRec); (· assumption); (try (case hz => rfl)); (case hr => first | assumption | exact List.getElem?_eq_getElem (by omega)); (try (case hz => omega)); (case ht => kernel_rfl); (case hs => kernel_rfl); intros)
        rename_i hat
        have hks := hs.kp
        refine r_ct0 (d_ref_CopyRec (r := x) (hat.mv hs.mv) hxf.f) (by kernel_rfl) hs.has ?_
        rintro v wa1 w1 X1 ⟨ur, uw, up, uq, uh, ud, rfl, hnat, how⟩ hle1 hin1 hs1
        have hnd := hB.tail.nodup
        have hB1 := hB.since hX hs1
        obtain ⟨Z, hZd⟩ : ∃ Z : XS, Z = fun k => rb w0 sb vo A k ∨ made wa1 w1 k := ⟨_, rfl⟩
        have hfoX : ∀ k, fo sb vo k ∨ A k → X1 k ∧ k < w.heap.size := fun k hk => by
          rcases hk with (hk | hk) | hk
          · rw [hk]; exact ⟨hB1.ref.box.1, hB.ref.box.lt⟩
          · exact ⟨hB1.ref.ow.2.2 k hk, (hB.ref.ow.ge hk).2⟩
          · exact ⟨(hB1.ref.sub k hk).1, (hB.ref.sub k hk).2.1⟩
        have hZX : ∀ k, Z k → X1 k := fun k hk => by
          rw [hZd] at hk
          rcases hk with (hk | hk | hk) | hk
          · exact hs1.sub k (hs.sub k hk)
          · exact (hfoX k (.inl hk)).1
          · exact (hfoX k (.inr hk)).1
          · exact hin1 k hk
        have hold : ∀ k, old w0 k → Z k := fun k hk => by rw [hZd]; exact .inl (.inl hk)
        have hfoZ : ∀ k, fo sb vo k → Z k := fun k hk => by rw [hZd]; exact .inl (.inr (.inl hk))
        have hAZ : ∀ k, A k → Z k := fun k hk => by rw [hZd]; exact .inl (.inr (.inr hk))
        have hMZ : ∀ k, made wa1 w1 k → Z k := fun k hk => by rw [hZd]; exact .inr hk
        have hT1 : TailAt w1 X1 Z (ptr tb 0) s c := ((hB.tail.fresh hX).since hX hs1).sub fun k hk hl => by
          rw [hZd] at hk
          rcases hk with hk | hk
          · exact .inl hk
          · have := hk.1; exact .inr (by omega)
        have hsA := hs.trans hs1
        have hX1 := hsA.has
        have hR1 : RTl w1 Z A sb vo s os := hB1.ref.to (hfoZ sb (.inl rfl)) hAZ fun g hg => hfoZ g (.inr hg)
        have hnat1 : x.at w1 Z ur uw up uq uh ud := hnat.mv (Mv.sub hMZ)
        have q1 := hnat.1.one
        have q2 := hnat.2.1.one
        have q3 := hnat.2.2.1.one
        have q4 := hnat.2.2.2.1.one
        have q5 := hnat.2.2.2.2.1.one
        have q6 := hnat.2.2.2.2.2.one
        have hkey := hB.inv.key
        have hokc := hB.inv.ok
        have hozl := hB.ozl
        have hrel := hB.rel
        have hinv := hB.inv
        have hnew := hB.new
        have hszw := hs.kp.size
        have hMn : ∀ k, made wa1 w1 k → w.heap.size ≤ k := fun k hk => by have := hk.1; omega
        have hszE := hs1.kp.size
        have hb2 := load_le xs (i + 1)
        clear hB hB1 hs hs1 hX
        have hs := hsA
        repeat' first | ((with_reducible apply m_sub); (· (simp only [Value.cells, nq1, nq2, nq3, nq4, nq5, nq6, setL, nq7, nq8, nq9, nq0, Nat.reduceAdd, Nat.zero_add]; try rfl))) | with_reducible apply un_box | ((with_reducible apply m_chkc); (case h => (repeat' first | with_reducible apply all_one_cons | with_reducible exact all_one_nil | assumption | rfl | exact Sl.one (by assumption) | exact Rws.one (by assumption) | exact Sl.one (Own.sl (by assumption))))) | ((with_reducible apply chk_T); (· first | rfl | assumption | exact Sl.one (by assumption) | exact Rws.one (by assumption) | exact Sl.one (Own.sl (by assumption))))
        refine l_FeedU (r := x) hT1 hZX hs.has hnat1 hxf.f.sm hinv (by omega) hlo fun va w2 X2 hs2 hT2 hsl2 hi2 => ?_
        have hsC := Since.cut hs hold hs2
        have hR2 := hR1.mv hs2.mv hs2.kp.size
        have hszC := hs2.kp.size
        have hmvM : Mv (made wa1 w1) w1 (made wa1 w1) w2 := fun k hk _ => ⟨hk, hs2.kp.block k (hMZ k hk)⟩
        have hnat2 := hnat.mv hmvM
        have how2 := how.mv hmvM
        have hlt1 : ∀ k, Z k → k < w1.heap.size := fun k hk => hX1 k (hZX k hk)
        have oa := hsl2.one
        have hX2 := hsC.has
        clear hnat1 hnat how hT1 hR1 hsA hs
        have hs := hsC
        repeat' first | with_reducible apply un_box | ((with_reducible apply m_ldA); (· (first | assumption | exact RowIs.cells (by assumption))); (· (first | exact mv0 | exact mv1 (by assumption) | exact mv2 (by assumption) (by assumption))); (· kernel_rfl); (· rfl)) | ((with_reducible apply m_ixRec); (· assumption); (try (case hz => rfl)); (case hr => first | assumption | exact List.getElem?_eq_getElem (by omega)); (try (case hz => omega)); (case ht => kernel_rfl); (case hs => kernel_rfl); intros) | ((with_reducible apply m_ext); (· rfl)) | ((with_reducible apply m_chkc); (case h => (repeat' first | with_reducible apply all_one_cons | with_reducible exact all_one_nil | assumption | rfl | exact Sl.one (by assumption) | exact Rws.one (by assumption) | exact Sl.one (Own.sl (by assumption))))) | ((with_reducible apply chk_T); (· first | rfl | assumption | exact Sl.one (by assumption) | exact Rws.one (by assumption) | exact Sl.one (Own.sl (by assumption))))
        rename_i hat2
        have hfo9 : ∀ k, made wa1 w1 k → ¬ fo sb vo k := fun k hk hf => by
          have := hMn k hk
          have := (hfoX k (.inl hf)).2
          omega
        refine l_RFeedU (Z' := old w0) (r := x) (c := c) hR2 hs.has (hat2.mv fun k hk hl => ⟨hk, hs.kp.block k hk⟩) (fun k hk => ⟨hs.sub k hk, fun hf => by have := hnew k (.inl hf); have : k < w0.heap.size := hk; omega⟩) hxf (by omega) hlo hrel hkey hokc hnd fun vb vo3 os3 A3 w3 X3 hc3 hR3 hrel3 hnew3 hslb => ?_
        have hsD := hsC.chg hc3 fun k hk e => by
          have := hnew k (.inl e)
          have : k < w0.heap.size := hk
          omega
        have hmvN : Mv (made wa1 w1) w2 X3 w3 := fun k hk _ => ⟨hc3.sub k (hs2.sub k (hMZ k hk)), hc3.block k (hs2.sub k (hMZ k hk)) (hfo9 k hk)⟩
        have hnat3 := hnat2.mv hmvN
        have how3 := how2.mv (w' := w3) (Y := made wa1 w1) fun k hk hl => ⟨hk, (hmvN k hk hl).2⟩
        have hT3 : TailAt w3 X3 (fun k => Z k ∨ w2.heap.size ≤ k) (ptr tb 0) (stepS s c z x) (stepC s c z x) := TailAt.chg (hT2.fresh hX2) hc3 fun k hk => .inl (hfoZ k hk)
        have hsla : Sl w3 (fun k => X3 k ∧ ¬ Z k) 4 va ((stepT s c z x).writes.map KV.l) := hsl2.mv fun k hk _ => ⟨⟨hc3.sub k hk.1, hk.2⟩, hc3.block k hk.1 fun hf => hk.2 (hfoZ k hf)⟩
        have ob := hslb.one
        have hX3 := hsD.has
        have hszD := hc3.size
        clear hnat2 how2 hT2 hR2 hsl2 hsC hs
        have hs := hsD
        repeat' first | with_reducible apply un_box | ((with_reducible apply m_ldA); (· (first | assumption | exact RowIs.cells (by assumption))); (· (first | exact mv0 | exact mv1 (by assumption) | exact mv2 (by assumption) (by assumption))); (· kernel_rfl); (· rfl)) | ((with_reducible apply m_ixRec); (· assumption); (try (case hz => rfl)); (case hr => first | assumption | exact List.getElem?_eq_getElem (by omega)); (try (case hz => omega)); (case ht => kernel_rfl); (case hs => kernel_rfl); intros) | ((with_reducible apply m_ext); (· rfl)) | ((with_reducible apply m_chkc); (case h => (repeat' first | with_reducible apply all_one_cons | with_reducible exact all_one_nil | assumption | rfl | exact Sl.one (by assumption) | exact Rws.one (by assumption) | exact Sl.one (Own.sl (by assumption))))) | ((with_reducible apply chk_T); (· first | rfl | assumption | exact Sl.one (by assumption) | exact Rws.one (by assumption) | exact Sl.one (Own.sl (by assumption))))
        rename_i hat3
        refine r_ct0B (d_raceref_Rec (r := x) (t := x) hnat3 (hat3.mv fun k hk hl => ⟨hs.sub k hk, hs.kp.block k hk⟩)) (by kernel_rfl) hs.has ?_ ?_
        rotate_left
        · intro h; exact absurd h (by simp)
        intro _ w4 X4 hs4
        have hsE := hs.trans hs4
        have hR4 := hR3.mv hs4.mv hs4.kp.size
        have hT4 := hT3.since hX3 hs4
        have hsla4 : Sl w4 (fun k => X4 k ∧ ¬ Z k) 4 va ((stepT s c z x).writes.map KV.l) := hsla.mv fun k hk _ => ⟨⟨hs4.sub k hk.1, hk.2⟩, hs4.kp.block k hk.1⟩
        have hslb4 : Sl w4 (fun k => X4 k ∧ (A k ∨ w2.heap.size ≤ k)) 4 vb ((stepT s c z x).writes.map KV.l) := hslb.mv fun k hk _ => ⟨⟨hs4.sub k hk.1, hk.2⟩, hs4.kp.block k hk.1⟩
        have hM3 : ∀ k, made wa1 w1 k → X3 k := fun k hk => hc3.sub k (hs2.sub k (hMZ k hk))
        have hublk : ∀ k, blk uw k → made wa1 w1 k := how3.2.2
        have how4 : Own w4 X4 wa1.heap.size 66 4 uw (x.writes.map KV.l) := how3.mv fun k hk _ => ⟨hs4.sub k (hM3 k hk), hs4.kp.block k (hM3 k hk)⟩
        have hsepU : ∀ k, fo sb vo3 k ∨ A3 k → ¬ blk uw k := fun k hk hb => by
          have h1 := hMn k (hublk k hb)
          have h2 := (hublk k hb).2
          rcases hnew3 k hk with h | h | h
          · have := (hfoX k (.inl h)).2; omega
          · have := (hfoX k (.inr h)).2; omega
          · omega
        have hwl := hxf.f.sm.writes
        have hc0 : Chg (blk uw) X4 w4 X4 w4 := Chg.of_since (Since.refl' hsE.has) _
        refine lp1_of (fun n' a w X => ∃ (k : Nat) (ws : List KV), a = I k ∧ n' = x.writes.length - k ∧ k ≤ x.writes.length ∧ Chg (blk uw) X4 w4 X w ∧ Own w X wa1.heap.size 66 4 uw (ws.map KV.l) ∧ ws.length = x.writes.length) x.writes.length
          ⟨0, x.writes, rfl, rfl, Nat.zero_le _, hc0, how4, rfl⟩ ?_
        clear hc0 how4 how3 hs hsD hR3 hT3 hsla hslb hnat3
        rintro n' a w5 X5 ⟨k, ws, rfl, rfl, hk2, hcL, hoW, hwsl⟩
        have hsl9 := hoW.sl
        have hX5 := hcL.has
        by_cases hlt2 : k < x.writes.length
        · rcases hoW.row with ⟨hv0, hnil⟩ | ⟨g, cap, cs, hv, hlo9, hrow, hn9, hcm, hlen9, _⟩
          · rw [List.map_eq_nil_iff] at hnil
            rw [hnil] at hwsl; simp at hwsl; omega
          subst hv
          have hwl9 : (ws.map KV.l).length = x.writes.length := by rw [List.length_map]; exact hwsl
          have hoX := And.intro hoW trivial
          have hs := Since.refl' hX5
          clear hoW hsl9
          repeat' first | ((with_reducible refine r_lssT ?_ ?_); (· omega)) | with_reducible apply condW_T | ((with_reducible apply un_cell); (· rfl)) | ((with_reducible apply r_bld); (· kernel_rfl)) | ((with_reducible apply chk_T); (· first | rfl | assumption | exact Sl.one (by assumption) | exact Rws.one (by assumption) | exact Sl.one (Own.sl (by assumption)))) | ((with_reducible apply m_lnL); (· kernel_rfl))
          have hri : (ws.map KV.l)[k]? = some (KV.l ws[k]) := by rw [List.getElem?_map, List.getElem?_eq_getElem (by omega)]; rfl
          refine m_ixO (i := k) rfl (by omega) (by kernel_rfl) (by kernel_rfl) ?_
          refine m_stO (i := k) (o := 0) hoX.1 hri rfl (by kernel_rfl) (by omega) (by omega) rfl rfl hX5 fun w6 X6 hc6 ho6 => ?_
          have hcN : Chg (blk (.slice (some ⟨g, 0, none⟩) (ws.map KV.l).length cap)) X4 w4 X6 w6 := hcL.trans (hc6.mono fun q _ e => by rw [e]; rfl)
          have hoN : Own w6 X6 wa1.heap.size 66 4 (.slice (some ⟨g, 0, none⟩) (ws.map KV.l).length cap) ((ws.set k ⟨⟨#[115, 112, 111, 105, 108, 116]⟩, ⟨0, 0, ⟨#[]⟩⟩⟩).map KV.l) := by rw [List.map_set]; exact ho6
          clear hs hc6 ho6 hoX
          have hs := Since.refl' hcN.has
          repeat' first | ((with_reducible apply r_add); (· omega); (· omega))
          exact nx1_of (x.writes.length - (k + 1)) (by omega) ⟨k + 1, _, by simp, rfl, by omega, hcN, hoN, by rw [List.length_set]; exact hwsl⟩
        · have hs5 := hsE.chg hcL fun q hq hb => by
            have := hMn q (hublk q hb)
            have : q < w0.heap.size := hq
            omega
          have hT5 : TailAt w5 X5 (fun k => Z k ∨ w2.heap.size ≤ k) (ptr tb 0) (stepS s c z x) (stepC s c z x) := TailAt.chg hT4 hcL fun k hk => .inl (hMZ k (hublk k hk))
          have hR5 : RTl w5 X5 A3 sb vo3 (stepS s c z x) os3 := (hR4.to (Y := fun k => X4 k ∧ ¬ blk uw k) ⟨hR4.box.1, hsepU _ (.inl (.inl rfl))⟩ (fun k hk => ⟨(hR4.sub k hk).1, hsepU k (.inr hk)⟩) fun g hg => ⟨hR4.ow.2.2 g hg, hsepU g (.inl (.inr hg))⟩).mv (hcL.mv fun k hk => hk) hcL.size
          have hsla5 : Sl w5 X5 4 va ((stepT s c z x).writes.map KV.l) := hsla4.mv (hcL.mv fun k hk => ⟨hk.1, fun hb => hk.2 (hMZ k (hublk k hb))⟩)
          have hslb5 : Sl w5 X5 4 vb ((stepT s c z x).writes.map KV.l) := hslb4.mv (hcL.mv fun k hk => ⟨hk.1, fun hb => by
            have h1 := hMn k (hublk k hb)
            have h2 := (hublk k hb).2
            rcases hk.2 with h | h
            · have := (hfoX k (.inr h)).2; omega
            · omega⟩)
          have hs := hs5
          repeat' first | ((with_reducible refine r_lssF ?_ ?_); (· omega)) | ((with_reducible refine r_neqF ?_ ?_); (· omega)) | with_reducible apply condW_F | ((with_reducible apply un_cell); (· rfl)) | ((with_reducible apply m_sub); (· (simp only [Value.cells, nq1, nq2, nq3, nq4, nq5, nq6, setL, nq7, nq8, nq9, nq0, Nat.reduceAdd, Nat.zero_add]; try rfl))) | with_reducible (first | apply un_selF | apply grdV_onF | apply rdW_pickF | apply gE_F | apply r_notT) | ((with_reducible apply m_lnS); (· (first | assumption | exact Own.sl (by assumption))); (· kernel_rfl)) | ((with_reducible apply chk_T); (· first | rfl | assumption | exact Sl.one (by assumption) | exact Rws.one (by assumption) | exact Sl.one (Own.sl (by assumption)))) | with_reducible apply jn_of
          refine r_ct0V (d_racelaw18_same (t := stepT s c z x) hsla5 hslb5) (by kernel_rfl) hs.has fun w6 X6 hs6 => ?_
          have hT6 := hT5.since hX5 hs6
          have hR6 := hR5.mv hs6.mv hs6.kp.size
          replace hs := hs.trans hs6
          repeat' first | with_reducible (first | apply un_selF | apply grdV_onF | apply rdW_pickF | apply gE_F | apply r_notT | apply jn_of)
          refine r_ct0V (d_racelaw18_stands hT6 hR6 hi2 (by have e9 : loadOf x = x.state.pend.length + 1 := rfl; omega) hrel3 hs.has) (by kernel_rfl) hs.has fun w7 X7 hs7 => ?_
          have hT7 := hT6.since hs.has hs7
          have hR7 := hR6.mv hs7.mv hs7.kp.size
          replace hs := hs.trans hs7
          repeat' first | with_reducible (first | apply condW_F | apply grdV_onF | apply rdW_pickF | apply r_notT) | ((with_reducible apply r_add); (· omega); (· omega))
          have hst := stepS_next (s := s) (c := c) (n := z) (r := x) hlo hhi
          refine nx2_of (xs.length - (i + 1)) (by omega) ⟨i + 1, stepS s c z x, stepC s c z x, A3, vo3, os3, by simp, rfl, by omega, hs, ⟨hT7.sub fun k hk hl => ?_, hR7, hrel3, ?_, hst.1, hst.2, fun k hk => ?_⟩⟩
          · rcases hk with hk | hk
            · exact .inl (hold k hk)
            · rcases hnew3 k hk with h | h | h
              · exact .inl (hfoZ k h)
              · exact .inl (hAZ k h)
              · exact .inr h
          · rw [hb1]; exact hi2.up (by have e9 : loadOf x = x.state.pend.length + 1 := rfl; omega)
          · rcases hnew3 k hk with h | h | h
            · exact hnew k (.inl h)
            · exact hnew k (.inr h)
            · omega
      · intro k hk
        repeat' first | with_reducible (first | apply condW_T | apply condW_F | apply un_selT | apply un_selFT | apply grdV_onT | apply grdW_offT | apply rdW_pickT | apply rdW_pickF) | (with_reducible apply r_lss <;> intro _) | (with_reducible apply r_gtr <;> intro _) | ((with_reducible apply m_ld1); (· (first | assumption | exact RowIs.cells (by assumption))); (· (first | exact mv0 | exact mv1 (by assumption) | exact mv2 (by assumption) (by assumption))); (· kernel_rfl); (· rfl)) | ((with_reducible apply m_lnS); (· (first | assumption | exact Own.sl (by assumption))); (· kernel_rfl)) | ((with_reducible apply m_ixS); (· (first | assumption | exact Own.sl (by assumption))); (try (case hz => rfl)); (case hr => first | assumption | exact List.getElem?_eq_getElem (by omega)); (try (case hz => omega)); (case ht => kernel_rfl); (case hs => kernel_rfl); intro _ _ _) | ((with_reducible apply r_add); (· omega); (· omega)) | exact hk _
    · repeat' first | ((with_reducible refine r_lssF ?_ ?_); (· omega)) | with_reducible (first | apply condW_F | apply un_selT | apply gE_T) | ((with_reducible apply m_lnR); (· assumption); (· kernel_rfl)) | with_reducible apply jn_of | (refine r_ct0V ((d_racelaw18_first) ) (by kernel_rfl) hs.has ?_; intro w X hs1; replace hs := hs.trans hs1)
      refine r_ct0V (d_racelaw18_stands (hB.tail.since hX (by assumption)) (hB.ref.mv (Since.mv (by assumption)) (Since.kp (by assumption)).size) hB.inv (by have := load_le xs i; omega) hB.rel hs.has) (by kernel_rfl) hs.has fun w7 X7 hs7 => ?_
      replace hs := hs.trans hs7
      repeat' first | with_reducible apply rdW_pickT | ((first | (with_reducible refine fin_ret0 hs ?_) | (with_reducible refine fin_ret0 (hs0.trans hs) ?_)); intro wa hk; rfl)
end Go.Proofs.YtnphlhpdikmpiaaGreat
namespace Go.Proofs.YtnphlhpdikmpiaaGreat
open Go.Eng Go.ChangeShapes Go.WideShapes Go.ChangeAt Go.RowKit
set_option maxRecDepth 100000
set_option maxHeartbeats 1000000
theorem State.wt_fit {s : State} (h : Wt.wt s ≤ 1048576) : s.fit := by
  have h' : Wt.wt s.range + Wt.wt s.floor + Wt.wt s.closed + ((s.hists.map Wt.wt).sum + 1) + ((s.pend.map Wt.wt).sum + 1) + 1 ≤ 1048576 := h
  have hr : Wt.wt s.range.id + Wt.wt s.range.epoch + wt64 s.range.lo + wt64 s.range.hi + 1 = Wt.wt s.range := rfl
  have h1 := wt_len s.hists
  have h2 := wt_len s.pend
  exact ⟨State.wt_small (B := 2 ^ 40) (Nat.le_trans h (by decide)) (Nat.le_refl _), by omega, by omega, wt64_lt (by omega), wt64_lt (by omega)⟩
theorem Rec.wt_fit {r : Rec} (h : Wt.wt r ≤ 1048576) : r.fit := by
  have h' : Wt.wt r.kind + Wt.wt r.txn + Wt.wt r.stamp + Wt.wt r.prev + Wt.wt r.commit + Wt.wt r.n + wt64 r.point + Wt.wt r.reads + Wt.wt r.writes + ((r.parts.map Wt.wt).sum + 1) + ((r.pairs.map Wt.wt).sum + 1) + Wt.wt r.state + 1 ≤ 1048576 := h
  have h1 := wt_len r.parts
  have h2 := wt_len r.pairs
  have hs := State.wt_fit (s := r.state) (by omega)
  exact ⟨⟨Rec.wt_small (B := 2 ^ 40) (Nat.le_trans h (by decide)) (Nat.le_refl _), by omega, by omega, hs.hl, Nat.le_trans hs.pl (by decide)⟩, hs, wt64_lt (by omega)⟩
namespace tailPlays
theorem contract (H : Type) (enc : TypeId × Value → H) (W : World) (base : Nat) (args : Array Value) (ds gs : List (DataW H)) (before : List MemPlace)
    (hval : ∀ (j : Nat) t v, Tryz.f3.params[j]? = some t → args[j]? = some v → Value.okWide Tryz.prog W .any base t v)
    (hW : DataW.Whole enc Tryz.prog Tryz.f3.params.toList Rows.tailPlaysSpec.vars false W args.toList ds gs before) (hk : Rows.uptoSmall H (ds ++ gs) = true) :
    Calls Tryz.prog 3 args W fun e W' => ∃ v, e = .returned v ∧ Rows.tailPlaysSpec.post enc Tryz.prog Tryz.f3 false true false false W args v W' := by
  have hW' := hW
  obtain ⟨p, q, hA0, hV, rfl, hfz, hnd⟩ := hW
  have hA : DataW.TrodAll enc Tryz.prog W 0 (fun _ => true) true Tryz.f3.params.toList args.toList ds p := hA0
  rw [Tryz.params3] at hA hval
  obtain ⟨v0, vs0, d0, ds0, p0, q0, hargs, rfl, rfl, h0, r0⟩ := trodAll_cons hA
  obtain ⟨v1, vs1, d1, ds1, p1, q1, rfl, rfl, rfl, h1, r1⟩ := trodAll_cons r0
  obtain ⟨v2, vs2, d2, ds2, p2, q2, rfl, rfl, rfl, h2, r2⟩ := trodAll_cons r1
  obtain ⟨v3, vs3, d3, ds3, p3, q3, rfl, rfl, rfl, h3, r3⟩ := trodAll_cons r2
  obtain ⟨rfl, rfl, rfl⟩ := trodAll_nil r3
  obtain rfl : args = #[v0, v1, v2, v3] := by cases args; simp_all
  obtain ⟨rfl, rfl⟩ := trodVars_none hV
  obtain ⟨a0, rfl, rfl, rfl, w0⟩ := open_int Tryz.underlying3 (hval 0 3 v0 rfl rfl) h0
  obtain ⟨a1, rfl, rfl, rfl, w1⟩ := open_int Tryz.underlying3 (hval 1 3 v1 rfl rfl) h1
  obtain ⟨b1, n1, c1, rfl⟩ := okWide_slice Tryz.underlying22 (hval 2 22 v2 rfl rfl)
  obtain ⟨b2, n2, c2, rfl⟩ := okWide_slice Tryz.underlying23 (hval 3 23 v3 rfl rfl)
  obtain ⟨f1, hf1⟩ := h2
  obtain ⟨f2, hf2⟩ := h3
  obtain ⟨x1, ⟨u1, hu1, r1⟩, wt1⟩ := rt_LRec H enc W f1 _ _ hf1
  obtain ⟨x2, ⟨u2, hu2, r2⟩, wt2⟩ := rt_Li H enc W f2 _ _ hf2
  obtain rfl : u1 = .slice b1 n1 c1 := by simpa [Value.cells] using hu1.symm
  obtain rfl : u2 = .slice b2 n2 c2 := by simpa [Value.cells] using hu2.symm
  have hb := bound hk
  simp only [List.append_nil, Rows.uptoBulkAll] at hb hW'
  have hw1 : (x1.map Wt.wt).sum + 1 ≤ Rows.uptoBulk d2 := wt1
  have hl1 := wt_len x1
  refine (d_racelaw18_TailPlays (X := old W) (id := a0) (next := a1) r1 r2.to_sl (fun r hr => Rec.wt_fit (Nat.le_trans (wt_mem hr) (by omega))) (sum_part (by omega) loadOf_le) (by omega) W (Kp.refl _ _)).mono fun e W' ⟨v, he, hfr, hq⟩ => ?_
  subst he
  subst hq
  exact ⟨_, rfl, law_post laid_out Tryz.underlying4 rfl rfl (by kernel_rfl) ⟨rfl, rfl, rfl⟩ hW' (by rw [List.append_nil] at *; exact hA0) hfr⟩
theorem lifted (os : Os) (started : os.Started) (H : Type) (enc : TypeId × Value → H) (F : Stop.Interp) :
    ReturnsInHanded {} Tryz.checked os 3 .any ((Rows.OpenSpec.upto Rows.tailPlaysSpec).pre6 enc Tryz.prog Tryz.f3 Rows.tailPlaysUptoRow.domain false) (((Rows.OpenSpec.upto Rows.tailPlaysSpec).at F).post enc Tryz.prog Tryz.f3 false true false false) := by
  refine returnsInHanded_of_cond (C := Tryz.checked) (s := Rows.OpenSpec.upto Rows.tailPlaysSpec) (k := Rows.uptoSmall) rfl own_knob started (by kernel_rfl) Tryz.func3
    (OpenSpec.witness (enc := enc) (C := Tryz.checked) (s := Rows.OpenSpec.upto Rows.tailPlaysSpec) (k := Rows.uptoSmall) rfl false ⟨#[], #[.int .i64 0, .int .i64 0, .slice none 0 0, .slice none 0 0], []⟩ 8 (by kernel_rfl) (by kernel_rfl) (by kernel_rfl)
      (x := ([.lit (.int .i64 0), .lit (.int .i64 0), .nil, .nil], [], [])) (by kernel_rfl) rfl (by kernel_rfl)) ?_
  intro W base args ds gs before hval hW _ hk _
  exact contract H enc W base args ds gs before hval hW hk
theorem proved : Rows.TailPlaysUptoSaid :=
  OpenClaim.holds_of_cond 3 Tryz.f3 rfl rfl rfl rfl rfl rfl rfl ⟨rfl, rfl, rfl, rfl, rfl⟩ rfl rfl rfl rfl rfl (by kernel_rfl) Tryz.func3 (by kernel_rfl)
    (of_decide_eq_true (by kernel_rfl)) (by unfold Func.isWrapper; first | (rw [if_pos (by decide +kernel)]; kernel_rfl) | (rw [if_neg (by decide +kernel)]; exact ⟨rfl, rfl⟩))
    (fun os started H enc _ F => lifted os started H enc F)
end tailPlays
end Go.Proofs.YtnphlhpdikmpiaaGreat
