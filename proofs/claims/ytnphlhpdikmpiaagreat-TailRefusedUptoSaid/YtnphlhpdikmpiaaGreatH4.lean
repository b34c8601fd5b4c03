/-
  Part 4 of the proof: what the last text leans on.
-/
import Derived.Test.YtnphlhpdikmpiaaGreatH3
namespace Go.Proofs.YtnphlhpdikmpiaaGreat
open Go.Eng
set_option maxRecDepth 100000
set_option maxHeartbeats 1000000
set_option linter.unusedVariables false
set_option linter.unusedSimpArgs false
attribute [local irreducible] un jn chk fld ld1 ldA st1 ixS lnS lnT bld cvI cvF ixA bsS apS rdV rdW grdW eW eV eU eC eF gE condW fin pickN nilN binS vS lp0 lp1 lp2 lp3 lp4 lp5 lp6 lp7 nx0 nx1 nx2 nx3 nx4 nx5 nx6 nx7
abbrev Told.v (kind : Int) (rng at' : Int) (t : Txn) (s : Stamp) (vw : Value) (child : Int) (st : Stamp) : Value :=
  .agg #[I kind, I rng, I at', I t.coord, I t.life, I t.sq, I s.wall, I s.logic, I s.node, vw, I child, I st.wall, I st.logic, I st.node]
theorem d_tail_split {w : World} {X : XS} {tb mb : Nat} {s : TailS} {m : TailM} {r : Rec} {vr vw vp vq vh vd : Value} (h : TailIs w X (fpM m) tb mb s m) (hX : ∀ k, X k → k < w.heap.size)
    (ha : r.at w X vr vw vp vq vh vd) (hsep : SepM m) (hok : OkM m) (hml : m.length ≤ 2 ^ 40) :
    Ct Tryz.prog 29 #[ptr tb 0, r.v vr vw vp vq vh vd] w X (ftp tb mb m) fun v wa w' => ∃ m', cont m' = (cont m).map (cutC r.point) ∧ SepM m' ∧ (∀ k, fpM m' k → fpM m k ∨ wa.heap.size ≤ k) ∧
      TailIs w' (ftp tb mb m') (fpM m') tb mb { s with closed := s.closed.later r.stamp } m' ∧
      v = Told.v 2 0 0 ⟨0, 0, 0⟩ .zero (.slice none 0 0) r.n (resGo (s.closed.later r.stamp) m') := by
  intro w0 hk
  replace h := h.mv hX hk.mvo
  replace ha := ha.mv hk.mvo
  have h1 := ha.1
  have h2 := ha.2.1
  have h3 := ha.2.2.1
  have h4 := ha.2.2.2.1
  have h5 := ha.2.2.2.2.1
  have h6 := ha.2.2.2.2.2
  have o1 := h1.one
  have o2 := h2.one
  have o3 := h3.one
  have o4 := h4.one
  have o5 := h5.one
  have o6 := h6.one
  have hF : ∀ k, ftp tb mb m k → k < w0.heap.size := fun k hk' => by
    rcases hk' with h' | h' | h'
    · rw [h']; exact h.box.lt
    · rw [h']; exact h.opn.x.2
    · exact (h.fp k h').2
  apply ok_tail_Tail_split; unfold vc_tail_Tail_split
  have hs := Since.out (ftp tb mb m) w0
  refine m_boxA hs.has fun bx w X hbx hs1 hrow => ?_
  replace hs := hs.trans hs1
  have hT := h.mv (fun k h => h) hs1.mv
  have hX1 := hs1.has
  have hbox := hT.box
  clear h hk h1 h2 h3 h4 h5 h6 ha hs1
  repeat' first
    | with_reducible apply r_nil
    | ((with_reducible apply m_fld); (· (first | assumption | exact RowIs.cells (by assumption))); (· kernel_rfl); (· rfl); (· (simp only [Value.cells, List.toList_toArray, List.take_succ_cons, List.drop_succ_cons, List.take_zero, List.drop_zero, List.take_nil, setL, List.length_cons, List.length_nil, List.cons_append, List.nil_append, Nat.reduceAdd, Nat.zero_add]; try rfl)); intro _ _ _)
    | ((with_reducible apply m_ldA); (· (first | assumption | exact RowIs.cells (by assumption))); (· (first | exact Mv.refl _ _ | exact Since.mv (by assumption) | exact Since.mv (Since.trans (by assumption) (by assumption)))); (· kernel_rfl); (· rfl))
    | ((with_reducible refine r_pure (c_hlc_Later _ _) ?_ hs.has ?_); (· kernel_rfl); intro w X hs1; replace hs := hs.trans hs1)
  rename_i e3 c3; subst e3; clear c3
  rename_i hs1 _ ; rename_i w1 X1 _ ; rename_i _ c2 ; clear c2
  replace hT := hT.mv hX1 hs1.mv
  replace hrow := hrow.since hs1
  refine m_st1 hT.box (by kernel_rfl) (by simp) rfl rfl hs.has fun w2 X2 hc hrow2 => ?_
  have hT2 := hT.head (s' := { s with closed := s.closed.later r.stamp }) hc hrow2
  have hrowB : RowIs w2 X2 bx _ _ := hrow.own.mv (hc.mv fun k hk => ⟨by rw [hk]; exact hrow.1, by have := hF tb (.inl rfl); omega⟩)
  have hsB := hs.chg hc fun k hk e => hk.2 (.inl e)
  have hbox := hT2.box
  clear hs hs1 hT hrow hrow2
  have hs0 := Since.refl' hsB.has
  have hs := hs0
  repeat' first
    | with_reducible apply r_nil
    | ((with_reducible apply m_fld1); (· (first | assumption | exact RowIs.cells (by assumption))); (· kernel_rfl); (· rfl); intro _ _ _)
    | ((with_reducible apply m_ld1); (· (first | assumption | exact RowIs.cells (by assumption))); (· (first | exact Mv.refl _ _ | exact Since.mv (by assumption) | exact Since.mv (Since.trans (by assumption) (by assumption)))); (· kernel_rfl); (· rfl))
  refine m_range (kt := 39) (et := 90) hT2.opn rdOpen.mv hT2.sub (by kernel_rfl) hs.has fun ri w X hr hs1 hit => ?_
  have hpl : List.Perm ([] ++ m.map (·.1)) (m.map (·.1)) := List.Perm.refl _
  refine lp1_of (fun n a w X => ∃ (left : TailM) (ks : List Txn), n = left.length ∧ Since X2 w2 X w ∧ ItR w X (fpM m) ri mb (fun k : Txn => k.v) rdOpen m left ∧
    Own w X w2.heap.size 39 3 a (ks.map T3) ∧ (∀ g, a.ownBlock = some g → g ≠ ri) ∧ List.Perm (ks ++ left.map (·.1)) (m.map (·.1)) ∧ ks.length ≤ m.length) m.length
    ⟨m, [], rfl, hs1, hit, Own.nil _ _ _ _ _, (by intro g hg; simp [Value.ownBlock] at hg), hpl, Nat.zero_le _⟩ ?_
  clear hs1 hit
  rintro n a w X ⟨left, ks, rfl, hs, hit, hob, hne, hpl, hkl⟩
  have hA : ∀ k, fpM m k → X k ∧ k ≠ ri := fun k hk => ⟨hs.sub k (hT2.sub k hk), fun e => by have := (hT2.fp k hk).2; omega⟩
  refine m_next hit rdOpen.mv hA hs.has (fun e0 w X hs1 => ?_) fun kx q v hmem w1 X1 hc hrd hit1 he => ?_
  · subst e0
    replace hob := hob.since hs1
    replace hs := hs.trans hs1
    rw [List.map_nil, List.append_nil] at hpl
    have hksn : ks.Nodup := hpl.nodup_iff.2 hT2.opn.nodup
    have hs2s := hsB.kp.size
    have hsX := hsB.trans hs
    have hsY : Since (out (ftp tb mb m) w0) w0 (fun k => X k ∧ ¬ ftp tb mb m k) w := ⟨hsX.kp, fun k hk => ⟨hsX.sub k hk, hk.2⟩, fun k hk => hsX.has k hk.1⟩
    have hTB := hT2.mv hs0.has hs.mv
    have hrowY : RowIs w (fun k => X k ∧ ¬ ftp tb mb m k) bx _ _ := ⟨⟨(hrowB.since hs).1, fun h => by have := hF _ h; omega⟩, (hrowB.since hs).2⟩
    have hobY : Own w (fun k => X k ∧ ¬ ftp tb mb m k) w2.heap.size 39 3 a (ks.map T3) :=
      ⟨hob.1, hob.2.1, fun g hg => ⟨hob.2.2 g hg, fun h => by have := hF _ h; have := (hob.ge hg).1; omega⟩⟩
    have hsl := hobY.sl
    have hbxl := hrowY.lt
    have hmem : ∀ x ∈ ks, x ∈ m.map (·.1) := fun x hx => hpl.mem_iff.1 hx
    have hall : ∀ x ∈ m.map (·.1), x ∈ ks := fun x hx => hpl.mem_iff.2 hx
    have hs9 : Since (fun k => X k ∧ ¬ ftp tb mb m k) w X w := ⟨Kp.refl _ _, fun k hk => hk.1, hsX.has⟩
    clear hob hobY hs hs1 hsX hT2 hrowB hit hA hpl
    have hkl2 : ks.length ≤ 2 ^ 40 := by omega
    repeat' first
      | with_reducible apply condW_F
      | ((with_reducible apply m_lnS); (· (first | assumption | exact Own.sl (by assumption))); (· kernel_rfl))
      | ((with_reducible apply m_ext); (· rfl))
    refine lp1_of (fun n a w' X' => ∃ (i : Nat) (mi : TailM), a = I (i : Nat) ∧ n = ks.length - i ∧ i ≤ ks.length ∧ Since (fun k => X k ∧ ¬ ftp tb mb m k) w X' w' ∧ TailIs w' X' (fpM mi) tb mb { s with closed := s.closed.later r.stamp } mi ∧
      SepM mi ∧ OkM mi ∧ cont mi = (cont m).map (fun e => if e.1 ∈ ks.take i then cutC r.point e else e) ∧ (∀ k, fpM mi k → fpM m k ∨ w.heap.size ≤ k)) ks.length
      ⟨0, m, rfl, rfl, Nat.zero_le _, hs9, hTB, hsep, hok, by simp, fun k hk => .inl hk⟩ ?_
    clear hTB hs9 hsep hok
    rintro n a w X ⟨i, mi, rfl, rfl, hi, hs, hT, hsep, hok, hcont, hfp⟩
    have hbox := hT.box
    rcases at_or ks i with ⟨hlt, x, hx, hd⟩ | ⟨hge, hd⟩
    · repeat' first
        | ((with_reducible refine r_lssT ?_ ?_); (· omega))
        | with_reducible apply condW_T
        | ((with_reducible apply m_sub); (· (simp only [Value.cells, List.toList_toArray, List.take_succ_cons, List.drop_succ_cons, List.take_zero, List.drop_zero, List.take_nil, setL, List.length_cons, List.length_nil, List.cons_append, List.nil_append, Nat.reduceAdd, Nat.zero_add]; try rfl)))
        | with_reducible apply un_box
        | with_reducible apply r_nil
        | ((with_reducible apply m_fld1); (· (first | assumption | exact RowIs.cells (by assumption))); (· kernel_rfl); (· rfl); intro _ _ _)
        | ((with_reducible apply m_ld1); (· (first | assumption | exact RowIs.cells (by assumption))); (· (first | exact Mv.refl _ _ | exact Since.mv (by assumption) | exact Since.mv (Since.trans (by assumption) (by assumption)))); (· kernel_rfl); (· rfl))
        | ((with_reducible apply m_ldA); (· (first | assumption | exact RowIs.cells (by assumption))); (· (first | exact Mv.refl _ _ | exact Since.mv (by assumption) | exact Since.mv (Since.trans (by assumption) (by assumption)))); (· kernel_rfl); (· rfl))
        | ((with_reducible apply m_ixS); (· (first | assumption | exact Own.sl (by assumption))); (try (case hz => rfl)); (case hr => first | assumption | exact List.getElem?_eq_getElem (by omega)); (try (case hz => omega)); (case ht => kernel_rfl); (case hs => kernel_rfl); intro _ _ _)
        | ((with_reducible apply m_chkc); (case h => (repeat' first | with_reducible apply all_one_cons | with_reducible exact all_one_nil | assumption | rfl | exact Sl.one (by assumption) | exact Rws.one (by assumption) | exact Sl.one (Own.sl (by assumption)))))
        | ((with_reducible apply chk_T); (· first | rfl | assumption | exact Sl.one (by assumption) | exact Rws.one (by assumption)))
      have hxm : ∃ q, getM x mi = some q := by
        have h1 : x ∈ mi.map (·.1) := by
          rw [← cont_keys, hcont, List.map_map]
          have h2 := hmem x (List.mem_of_getElem? hx)
          rw [← cont_keys] at h2
          obtain ⟨e, he, rfl⟩ := List.mem_map.1 h2
          refine List.mem_map.2 ⟨e, he, ?_⟩
          simp only [Function.comp]
          split <;> rfl
        obtain ⟨y, hy, rfl⟩ := List.mem_map.1 h1
        exact ⟨y.2, getM_of_mem hT.opn.nodup hy⟩
      refine m_mapGet1 (kv := fun k : Txn => k.v) (k := x) (kt := 39) (et := 90) (.agg #[I 0, I 0, I 0, I 0, I 0, I 0, .slice none 0 0, .slice none 0 0, I 0]) hT.opn key_txn (by kernel_rfl) (by kernel_rfl) (fun v q hg hrd => ?_) fun hg => ?_
      rotate_left
      · obtain ⟨q, hq⟩ := hxm
        rw [hq] at hg; cases hg
      obtain ⟨ur, uw, rfl, q1, q2, q3⟩ := hrd
      have o1 := q1.sl.one
      have o2 := q2.sl.one
      have hqo := hok _ (mem_get hg)
      repeat' first
        | ((with_reducible apply un_cell); (· rfl))
        | with_reducible apply un_box
        | ((with_reducible apply m_fld1); (· (first | assumption | exact RowIs.cells (by assumption))); (· kernel_rfl); (· rfl); intro _ _ _)
        | ((with_reducible apply m_ld1); (· (first | assumption | exact RowIs.cells (by assumption))); (· (first | exact Mv.refl _ _ | exact Since.mv (by assumption) | exact Since.mv (Since.trans (by assumption) (by assumption)))); (· kernel_rfl); (· rfl))
        | ((with_reducible apply m_chkc); (case h => (repeat' first | with_reducible apply all_one_cons | with_reducible exact all_one_nil | assumption | rfl | exact Sl.one (by assumption) | exact Rws.one (by assumption) | exact Sl.one (Own.sl (by assumption)))))
        | ((with_reducible apply chk_T); (· first | rfl | assumption | exact Sl.one (by assumption) | exact Rws.one (by assumption)))
      refine r_ct0 (d_hand_Halve (pt := r.point) (Sl.mv q2.sl (Mv.sub hT.sub)) hqo.w hqo.wk) (by kernel_rfl) hs.has ?_
      rintro v wa w1 X1 ⟨va, vb, rfl, ho1, ho2⟩ hle hin hs1
      have hT1 := hT.mv hs.has hs1.mv
      have q1' := q1.mv (hs1.mvA hT.sub)
      have hva := ho1.sl.one
      have hvb := ho2.sl.one
      have hlo := hs.kp.size
      replace hs := hs.trans hs1
      have hfr := hrowY.since hs
      repeat' first
        | ((with_reducible apply un_cell); (· rfl))
        | ((with_reducible apply m_set); (· (simp only [Value.cells, List.toList_toArray, List.take_succ_cons, List.drop_succ_cons, List.take_zero, List.drop_zero, List.take_nil, setL, List.length_cons, List.length_nil, List.cons_append, List.nil_append, Nat.reduceAdd, Nat.zero_add]; try rfl)))
        | ((with_reducible apply m_ext); (· rfl))
        | ((with_reducible apply chk_T); (· first | rfl | assumption | exact Sl.one (by assumption) | exact Rws.one (by assumption)))
        | (with_reducible apply m_mkFun)
      have hbr : ∀ g, blk ur g → fpM mi g := fun g hg' => ⟨_, mem_get hg, .inl (q3.1 ▸ hg')⟩
      have hbx2 : ∀ g, fpM mi g → g ≠ bx := fun g hg' e => by
        rcases hfp g hg' with h | h
        · have := hF g (.inr (.inr h)); omega
        · omega
      refine r_ct (d_deleteFunc_texts (A := fun k => k = bx) (cs := [ptr bx 0]) (p := fun k => fgt (placeOf k) r.point || feq (placeOf k) r.point) (q1'.mono hT1.sub) hs.has (fun k hk => ⟨by rw [hk]; exact hfr.1, fun h => hbx2 k (hbr k h) hk⟩) (by kernel_rfl)
        (fun y hy => d_tail_split_c1 (RowIs.cells hfr.own) (Nat.le_trans (hqo.rk y hy) (by decide)))) (by kernel_rfl) hs.has (fun k hk => hT1.sub k (hbr k hk)) ?_
      rintro va' wb w2' X2' ⟨hor, hbe⟩ hle2 hin2 hkb hc2
      have hva1 := hor.sl.one
      have hoff : ∀ g, fpM mi g → g ≠ tb ∧ g ≠ mb := hT1.off
      have hbox2 : RowIs w2' X2' tb _ _ := hT1.box.own.mv (hc2.mv fun k hk => ⟨by rw [hk]; exact hT1.box.1, fun h => (hoff k (hbr k h)).1 hk⟩)
      have hs' := hs.chg hc2 fun k hk e => by
        rcases hfp k (hbr k e) with h | h
        · exact hk.2 (.inr (.inr h))
        · have := hsY.has k hk; omega
      clear hbox
      replace hs := hs'
      clear hs'
      repeat' first
        | ((with_reducible apply m_sub); (· (simp only [Value.cells, List.toList_toArray, List.take_succ_cons, List.drop_succ_cons, List.take_zero, List.drop_zero, List.take_nil, setL, List.length_cons, List.length_nil, List.cons_append, List.nil_append, Nat.reduceAdd, Nat.zero_add]; try rfl)))
        | ((with_reducible apply m_set); (· (simp only [Value.cells, List.toList_toArray, List.take_succ_cons, List.drop_succ_cons, List.take_zero, List.drop_zero, List.take_nil, setL, List.length_cons, List.length_nil, List.cons_append, List.nil_append, Nat.reduceAdd, Nat.zero_add]; try rfl)))
        | with_reducible apply r_nil
        | ((with_reducible apply m_fld1); (· (first | assumption | exact RowIs.cells (by assumption))); (· kernel_rfl); (· rfl); intro _ _ _)
        | ((with_reducible apply m_ld1); (· (first | assumption | exact RowIs.cells (by assumption))); (· (first | exact Mv.refl _ _ | exact Since.mv (by assumption) | exact Since.mv (Since.trans (by assumption) (by assumption)))); (· kernel_rfl); (· rfl))
        | ((with_reducible apply chk_T); (· first | rfl | assumption | exact Sl.one (by assumption) | exact Rws.one (by assumption)))
      let a : Opn := { p := q.p.cut r.point, at' := q.at', br := q.br, bw := va.ownBlock }
      have hnod := hT.opn.nodup
      have hfresh : ∀ g, va.ownBlock = some g → wa.heap.size ≤ g ∧ g < w1.heap.size := fun g hg' => ho1.ge hg'
      have hnew : ∀ g, va.ownBlock = some g → ¬ fpM mi g := fun g hg' h => by have := (hT.fp g h).2; have := (hfresh g hg').1; omega
      have hfpA : ∀ g, fpM (putM x a mi) g → fpM mi g ∨ va.ownBlock = some g := fun g h => fpM_put (a := a) hnod hg rfl h
      have hX2 : ∀ g, fpM (putM x a mi) g → X2' g ∧ g ≠ tb ∧ g ≠ mb := fun g h => by
        rcases hfpA g h with h | h
        · exact ⟨hc2.sub g (hT1.sub g h), hoff g h⟩
        · have h3 := hfresh g h
          have := hT.box.lt; have := hT.opn.x.2
          exact ⟨hc2.sub g (hin g h3), by omega, by omega⟩
      have hnb : ∀ g, va.ownBlock = some g → ¬ blk ur g := fun g hg' h => hnew g hg' (hbr g h)
      have hmx : MapRX w2' X2' (fpM (putM x a mi)) mb (fun k : Txn => k.v) rdOpen x mi := MapR.toX hT1.opn (fun k hk _ => by
          have hk : k = mb := hk
          subst hk
          exact ⟨hc2.sub _ hT1.opn.x.1, hc2.block _ hT1.opn.x.1 fun h => (hoff _ (hbr _ h)).2 rfl⟩) fun y v hy hne hrd => rdOpen.loc hrd fun g hg' =>
        ⟨⟨y, mem_putM_of hy hne, hg'⟩, hc2.block g (hT1.sub g ⟨y, hy, hg'⟩) fun h => by
          have hsp := hsep.all _ (mem_get hg) y hy hne
          have hbg : q.br = some g := q3.1 ▸ h
          rcases hg' with hg' | hg'
          · exact hsp.1 g hbg hg'
          · exact hsp.2.1 g hbg hg'⟩
      have hva2 : rdOpen w2' (fpM (putM x a mi)) (a.v va' va) a := ⟨va', va, rfl, hor.mono fun g hg' => ⟨_, mem_putM_self, .inl (q3.1 ▸ hg')⟩,
        Own.loc (ho1.low (Nat.zero_le _)) fun g hg' => ⟨⟨_, mem_putM_self, .inr hg'⟩, hc2.block g (hin g (hfresh g hg')) (hnb g hg')⟩, hbe.trans q3.1, rfl⟩
      refine m_mapPutX (κ := Txn) (k := x) (a := a) (kv := fun k : Txn => k.v) (kt := 39) (et := 90) hmx rdOpen.mv hva2 (fun k hk => ⟨(hX2 k hk).1, (hX2 k hk).2.2⟩) key_txn (by kernel_rfl) hs.has fun w4 X4 hc4 hm4 => ?_
      have hT4 : TailIs w4 X4 (fpM (putM x a mi)) tb mb { s with closed := s.closed.later r.stamp } (putM x a mi) :=
        ⟨hbox2.own.mv (hc4.mv fun k hk => ⟨by rw [hk]; exact hbox2.1, by rw [hk]; exact hT.ne⟩), hm4, fun k hk => hc4.sub k (hX2 k hk).1, fun k hk => (hX2 k hk).2, hT.ne⟩
      replace hs := hs.chg hc4 fun k hk e => hk.2 (.inr (.inl e))
      repeat' first
        | ((with_reducible apply r_add); (· omega); (· omega))
      refine nx1_of (ks.length - (i + 1)) (by omega) ⟨i + 1, putM x a mi, by simp, rfl, by omega, hs, hT4, SepM.put hsep hnod hg rfl hnew, OkM.put hok hnod (Pend.cut_ok hqo), cont_step hcont hksn hx hnod hg rfl rfl, fun k hk => ?_⟩
      rcases hfpA k hk with h | h
      · exact hfp k h
      · right
        have := (hfresh k h).1
        omega
    · rw [List.take_of_length_le hge] at hcont
      repeat' first
        | ((with_reducible refine r_lssF ?_ ?_); (· omega))
        | with_reducible apply condW_F
        | ((with_reducible apply m_fld1); (· (first | assumption | exact RowIs.cells (by assumption))); (· kernel_rfl); (· rfl); intro _ _ _)
        | ((with_reducible apply m_ld1); (· (first | assumption | exact RowIs.cells (by assumption))); (· (first | exact Mv.refl _ _ | exact Since.mv (by assumption) | exact Since.mv (Since.trans (by assumption) (by assumption)))); (· kernel_rfl); (· rfl))
      refine r_ct0V (d_tail_Resolved hT hs.has) (by kernel_rfl) hs.has fun w X hs2 => ?_
      have hT2 := hT.mv hs.has hs2.mv
      replace hs := hs.trans hs2
      repeat' first
        | ((with_reducible apply un_cell); (· rfl))
        | ((with_reducible apply m_sub); (· (simp only [Value.cells, List.toList_toArray, List.take_succ_cons, List.drop_succ_cons, List.take_zero, List.drop_zero, List.take_nil, setL, List.length_cons, List.length_nil, List.cons_append, List.nil_append, Nat.reduceAdd, Nat.zero_add]; try rfl)))
        | with_reducible apply un_box
        | ((with_reducible apply r_bld); (· kernel_rfl))
        | ((with_reducible apply m_chkc); (case h => (repeat' first | with_reducible apply all_one_cons | with_reducible exact all_one_nil | assumption | rfl | exact Sl.one (by assumption) | exact Rws.one (by assumption) | exact Sl.one (Own.sl (by assumption)))))
        | ((with_reducible apply chk_T); (· first | rfl | assumption | exact Sl.one (by assumption) | exact Rws.one (by assumption)))
      refine fin_ret (hsY.trans hs) fun wa hk => ⟨mi, ?_, hsep, fun k hk => (hfp k hk).imp id fun h => Nat.le_trans hsY.kp.size h, TailIs.tight (hT2.mv hs.has hk.mv), rfl⟩
      exact hcont.trans (List.map_congr_left fun e he => if_pos (hall _ (by rw [← cont_keys]; exact List.mem_map.2 ⟨e, he, rfl⟩)))
  · have hob1 := hob.chg hc fun g hg e => hne g hg e
    replace hs := hs.chg hc fun k hk e => by have := hs0.has k hk; omega
    obtain ⟨ur, uw, rfl, q1, q2, q3⟩ := hrd
    have o1 := q1.sl.one
    have o2 := q2.sl.one
    have hpl1 := keys_step hit.nodup hmem
    have hlk : (ks ++ left.map (·.1)).length = m.length := by rw [hpl.length_eq, List.length_map]
    have hlt := left_lt hmem
    rw [List.length_append, List.length_map] at hlk
    have hA1 : ∀ k, fpM m k → X1 k := fun k hk => hs.sub k (hT2.sub k hk)
    clear hob hc
    repeat' first
      | with_reducible apply condW_T
      | ((with_reducible apply m_sub); (· (simp only [Value.cells, List.toList_toArray, List.take_succ_cons, List.drop_succ_cons, List.take_zero, List.drop_zero, List.take_nil, setL, List.length_cons, List.length_nil, List.cons_append, List.nil_append, Nat.reduceAdd, Nat.zero_add]; try rfl)))
      | with_reducible apply un_box
      | ((with_reducible apply m_ext); (· rfl))
      | ((with_reducible apply m_chkc); (case h => (repeat' first | with_reducible apply all_one_cons | with_reducible exact all_one_nil | assumption | rfl | exact Sl.one (by assumption) | exact Rws.one (by assumption) | exact Sl.one (Own.sl (by assumption)))))
      | ((with_reducible apply chk_T); (· first | rfl | assumption | exact Sl.one (by assumption) | exact Rws.one (by assumption)))
      | ((with_reducible apply m_app1a); (case own => first | assumption | exact Own.since (by assumption) (by assumption)); (case hs => assumption); (case h0 => first | exact fun _ h => h | exact hs0.has); (case he => kernel_rfl); (case hk => rfl); (case h1 => (repeat' first | with_reducible apply all_one_cons | with_reducible exact all_one_nil | assumption | rfl | exact Sl.one (by assumption) | exact Rws.one (by assumption) | exact Sl.one (Own.sl (by assumption)))); (case hb => (simp only [List.length_map, List.length_take, List.length_append, List.length_cons, List.length_nil]; omega)); (case hl => (simp only [List.length_map, List.length_take, List.length_append, List.length_cons, List.length_nil]; omega)); intro acc w X hs1 ho hc hat; replace hs := hs1)
      | (refine m_entry hs.has he fun w X hs2 => ?_; replace hs := hs.trans hs2; replace hob1 := hob1.since hs2; replace hit1 := hit1.mv rdOpen.mv hs2.mv (hs2.mvA hA1))
    have hix := ItR.x hit1
    have hmb2 := hT2.opn.x.2
    have nb : ∀ k, blk a k → w2.heap.size ≤ k ∧ k ≠ ri := fun k hk => ⟨(hob1.ge hk).1, hne k hk⟩
    have hA2 : ∀ k, fpM m k → k < w2.heap.size := fun k hk => (hT2.fp k hk).2
    have hit2 := ItR.mv (ItR.own hit1) rdOpen.mv (hc.mv fun k hk => by
      rcases hk with rfl | rfl
      · exact ⟨hix.1, fun h => (nb _ h).2 rfl⟩
      · exact ⟨hix.2.1, fun h => by have := (nb _ h).1; omega⟩) (fun k hk _ => ⟨hk, hc.block k (hs2.sub k (hA1 k hk)) fun h => by have := (nb _ h).1; have := hA2 k hk; omega⟩)
    refine nx1_of _ hlt ⟨_, ks ++ [kx], rfl, hs, hit2, by simpa using ho, ?_, ?_, ?_⟩
    · intro g hg
      rcases hat with e | ⟨g', e, hge⟩
      · exact hne g (e ▸ hg)
      · rw [e] at hg; cases hg
        have := hix.2.2.1; omega
    · rw [List.append_assoc]
      exact (List.Perm.append_left ks hpl1.symm).trans hpl
    · simp; omega
end Go.Proofs.YtnphlhpdikmpiaaGreat
namespace Go.Proofs.YtnphlhpdikmpiaaGreat
open Go.Eng
set_option maxRecDepth 100000
set_option maxHeartbeats 1000000
set_option linter.unusedVariables false
set_option linter.unusedSimpArgs false
attribute [local irreducible] un jn chk fld ld1 ldA st1 ixS lnS lnT bld cvI cvF ixA bsS apS rdV rdW grdW eW eV eU eC eF gE condW fin pickN nilN binS vS lp0 lp1 lp2 lp3 lp4 lp5 lp6 lp7 nx0 nx1 nx2 nx3 nx4 nx5 nx6 nx7
abbrev Cont := List (Txn × Pend × Int)
theorem getM_cont (k : Txn) : ∀ m : TailM, getM k (cont m) = (getM k m).map fun x => (x.p, x.at')
  | [] => rfl
  | x :: l => by
    have ih := getM_cont k l
    unfold getM at ih ⊢
    simp only [cont, List.map_cons, List.find?_cons] at ih ⊢
    by_cases h : x.1 = k
    · simp [h]
    · simp only [h, decide_false, Bool.false_eq_true, if_false]; exact ih
theorem putM_contOf (k : Txn) (a : Opn) : ∀ m : TailM, cont (putM k a m) = putM k (a.p, a.at') (cont m)
  | [] => rfl
  | x :: l => by
    have ih := putM_contOf k a l
    simp only [cont, List.map_cons, putM] at ih ⊢
    split
    · rfl
    · simp only [List.map_cons, ih]
theorem delM_cont (k : Txn) : ∀ m : TailM, cont (delM k m) = delM k (cont m)
  | [] => rfl
  | x :: l => by
    have ih := delM_cont k l
    simp only [cont, delM, List.map_cons, List.filter_cons] at ih ⊢
    split
    · simp only [List.map_cons, ih]
    · exact ih
def resC (s : Stamp) (c : Cont) : Stamp := c.foldl (fun s x => if x.2.1.stamp.prior.1.cmp s < 0 then x.2.1.stamp.prior.1 else s) s
theorem resGo_cont (s : Stamp) (m : TailM) : resGo s m = resC s (cont m) := by simp [resGo, resC, cont, List.foldl_map]
theorem resC_cut (s : Stamp) (pt : Nat) (c : Cont) : resC s (c.map (cutC pt)) = resC s c := by simp only [resC, List.foldl_map, cutC, Pend.cut]; rfl
def needC (n : Int) (c : Cont) : Int := c.foldl (fun n x => min n x.2.2) n
theorem needGo_cont (n : Int) (m : TailM) : needGo n m = needC n (cont m) := by simp [needGo, needC, cont, List.foldl_map]
structure ToldS where
  kind : Int
  rng : Int
  at' : Int
  txn : Txn
  stamp : Stamp
  writes : List KV
  child : Int
  st : Stamp
def ToldS.none : ToldS := ⟨0, 0, 0, ⟨0, 0, 0⟩, .zero, [], 0, .zero⟩
abbrev ToldS.v (t : ToldS) (vw : Value) : Value := Told.v t.kind t.rng t.at' t.txn t.stamp vw t.child t.st
def feedS (s : TailS) (r : Rec) : TailS :=
  ⟨s.id, s.next + 1, if r.kind = 1 then s.closed.later r.state.closed else if r.kind = 5 ∨ r.kind = 6 then s.closed.later r.stamp else s.closed⟩
def feedC (n : Int) (r : Rec) (c : Cont) : Cont :=
  if r.kind = 1 then r.state.pend.foldl (fun c p => putM p.txn (p, n) c) c
  else if r.kind = 3 then putM r.txn (⟨r.txn, r.stamp, r.reads, r.writes⟩, n) c
  else if r.kind = 4 then delM r.txn c
  else if r.kind = 6 then c.map (cutC r.point) else c
def feedTold (s : TailS) (r : Rec) (c : Cont) : ToldS :=
  if r.kind = 4 then (match getM r.txn c with
    | some x => if r.commit = true ∧ 0 < x.1.writes.length then ⟨1, s.id, x.2, r.txn, r.stamp, x.1.writes, 0, .zero⟩ else .none
    | none => .none)
  else if r.kind = 6 then ⟨2, 0, 0, ⟨0, 0, 0⟩, .zero, [], r.n, resC (s.closed.later r.stamp) c⟩ else .none
section
variable {w : World} {X : XS} {tb mb : Nat} {s : TailS} {m : TailM} {R : Ending → World → Prop} {N : Value → World → XS → Prop}
theorem m_tailNext {z : Int} {o : Nat} (hT : TailIs w X (fpM m) tb mb s m) (ho : o = 0 + 1) (hX : ∀ k, X k → k < w.heap.size)
    (n : ∀ w' X', Chg (fun k => k = tb) X w X' w' → TailIs w' X' (fpM m) tb mb { s with next := z } m → N undef w' X') : eU Tryz.prog R X w true (st1 3 1 (ptr tb o) (I z)) N := by
  subst ho
  exact m_st1 hT.box (by kernel_rfl) (by simp) rfl rfl hX fun w2 X2 hc hr => n w2 X2 hc (hT.head (s' := { s with next := z }) hc hr)
theorem m_tailClosed {c : Stamp} {o : Nat} (hT : TailIs w X (fpM m) tb mb s m) (ho : o = 0 + 2) (hX : ∀ k, X k → k < w.heap.size)
    (n : ∀ w' X', Chg (fun k => k = tb) X w X' w' → TailIs w' X' (fpM m) tb mb { s with closed := c } m → N undef w' X') : eU Tryz.prog R X w true (st1 34 3 (ptr tb o) c.v) N := by
  subst ho
  exact m_st1 hT.box (by kernel_rfl) (by simp) rfl rfl hX fun w2 X2 hc hr => n w2 X2 hc (hT.head (s' := { s with closed := c }) hc hr)
theorem m_tailPut {k : Txn} {a : Opn} {v vr vw : Value} {lo : Nat} (hT : TailIs w X (fpM m) tb mb s m) (hsep : SepM m) (hX : ∀ k, X k → k < w.heap.size) (hv : v = a.v vr vw)
    (h1 : Own w X lo 9 1 vr (a.p.reads.map S1)) (h2 : Own w X lo 66 4 vw (a.p.writes.map KV.l)) (hb1 : vr.ownBlock = a.br) (hb2 : vw.ownBlock = a.bw) (h12 : sepB a.br a.bw)
    (hnew : ∀ g, a.br = some g ∨ a.bw = some g → ¬ fpM m g ∧ g ≠ tb ∧ g ≠ mb)
    (n : ∀ w' X' m', Chg (fun k => k = mb) X w X' w' → TailIs w' X' (fpM m') tb mb s m' → SepM m' → cont m' = putM k (a.p, a.at') (cont m) → (∀ g, fpM m' g → fpM m g ∨ a.br = some g ∨ a.bw = some g) → N undef w' X') :
    eU Tryz.prog R X w true (Instr.mapUpdate 76 (.map (some mb)) k.v v) N := by
  subst hv
  have hn := hT.opn.nodup
  have hfp : ∀ g, fpM (putM k a m) g → fpM m g ∨ a.br = some g ∨ a.bw = some g := by
    rintro g ⟨x, hx, hg⟩
    rcases mem_putM hn hx with rfl | ⟨hx, _⟩
    · exact .inr hg
    · exact .inl ⟨x, hx, hg⟩
  have hok : ∀ g, a.br = some g ∨ a.bw = some g → X g := fun g hg => by
    rcases hg with hg | hg
    · exact h1.2.2 g (hb1.trans hg)
    · exact h2.2.2 g (hb2.trans hg)
  have hall : ∀ g, fpM (putM k a m) g → X g ∧ g ≠ tb ∧ g ≠ mb := fun g hg => by
    rcases hfp g hg with h | h
    · exact ⟨hT.sub g h, hT.off g h⟩
    · exact ⟨hok g h, (hnew g h).2⟩
  have hmx : MapRX w X (fpM (putM k a m)) mb (fun k : Txn => k.v) rdOpen k m := MapR.toX hT.opn (fun g hg _ => by
      have hg : g = mb := hg
      exact ⟨by rw [hg]; exact hT.opn.x.1, rfl⟩) fun y v hy hne hrd => rdOpen.loc hrd fun g hg => ⟨⟨y, mem_putM_of hy hne, hg⟩, rfl⟩
  have hv : rdOpen w (fpM (putM k a m)) (a.v vr vw) a := ⟨vr, vw, rfl, Own.loc (h1.low (Nat.zero_le _)) fun g hg => ⟨⟨_, mem_putM_self, .inl (hb1 ▸ hg)⟩, rfl⟩,
    Own.loc (h2.low (Nat.zero_le _)) fun g hg => ⟨⟨_, mem_putM_self, .inr (hb2 ▸ hg)⟩, rfl⟩, hb1, hb2⟩
  refine m_mapPutX (κ := Txn) (k := k) (a := a) (kv := fun k : Txn => k.v) (kt := 39) (et := 90) hmx rdOpen.mv hv (fun g hg => ⟨(hall g hg).1, (hall g hg).2.2⟩) key_txn (by kernel_rfl) hX fun w4 X4 hc4 hm4 => ?_
  refine n w4 X4 _ hc4 (hT.body hc4 hm4 fun g hg => ⟨hc4.sub g (hall g hg).1, (hall g hg).2⟩) ?_ (putM_contOf k a m) hfp
  have e1 : ∀ y ∈ m, a.sep y.2 := fun y hy => ⟨fun g hg hb => (hnew g (.inl hg)).1 ⟨y, hy, .inl hb⟩, fun g hg hb => (hnew g (.inl hg)).1 ⟨y, hy, .inr hb⟩,
    fun g hg hb => (hnew g (.inr hg)).1 ⟨y, hy, .inl hb⟩, fun g hg hb => (hnew g (.inr hg)).1 ⟨y, hy, .inr hb⟩⟩
  refine ⟨fun x hx => ?_, fun x hx y hy hne => ?_⟩
  · rcases mem_putM hn hx with rfl | ⟨hx, _⟩
    · exact h12
    · exact hsep.two x hx
  · rcases mem_putM hn hx with rfl | ⟨hx, hxk⟩ <;> rcases mem_putM hn hy with rfl | ⟨hy, hyk⟩
    · exact absurd rfl hne
    · exact e1 y hy
    · exact (e1 x hx).symm
    · exact hsep.all x hx y hy hne
theorem fpM_del {k : Txn} {g : Nat} (h : fpM (delM k m) g) : fpM m g := by
  obtain ⟨x, hx, hg⟩ := h
  exact ⟨x, (List.mem_filter.1 hx).1, hg⟩
theorem m_tailDel {k : Txn} (hT : TailIs w X (fpM m) tb mb s m) (hsep : SepM m) (hX : ∀ k, X k → k < w.heap.size)
    (n : ∀ w' X', Chg (fun k => k = mb) X w X' w' → TailIs w' X' (fpM (delM k m)) tb mb s (delM k m) → SepM (delM k m) → N (.tuple #[]) w' X') :
    eV Tryz.prog R X w true (Builtin.delete_ #[76, 39] 0 #[.map (some mb), k.v]) N := by
  refine m_mapDel (kv := fun k : Txn => k.v) (k := k) (kt := 39) (et := 90) hT.opn rdOpen.mv (fun g hg => ⟨hT.sub g hg, (hT.off g hg).2⟩) key_txn (by kernel_rfl) hX fun w' X' hc hm => ?_
  refine n w' X' hc (TailIs.exact (hT.body hc hm fun g hg => ⟨hc.sub g (hT.sub g hg), hT.off g hg⟩)) ⟨fun x hx => hsep.two x (List.mem_filter.1 hx).1, fun x hx y hy hne => hsep.all x (List.mem_filter.1 hx).1 y (List.mem_filter.1 hy).1 hne⟩
end
end Go.Proofs.YtnphlhpdikmpiaaGreat
namespace Go.Proofs.YtnphlhpdikmpiaaGreat
open Go.Eng
set_option maxRecDepth 100000
set_option maxHeartbeats 1000000
set_option linter.unusedVariables false
set_option linter.unusedSimpArgs false
attribute [local irreducible] un jn chk fld ld1 ldA st1 ixS lnS lnT bld cvI cvF ixA bsS apS rdV rdW grdW eW eV eU eC eF gE condW fin pickN nilN binS vS lp0 lp1 lp2 lp3 lp4 lp5 lp6 lp7 nx0 nx1 nx2 nx3 nx4 nx5 nx6 nx7
def FeedQ (s : TailS) (m : TailM) (tb mb : Nat) (n : Int) (r : Rec) (v : Value) (wa w' : World) : Prop :=
  if mayErr s m n r ≠ 0 then v = .tuple #[ToldS.none.v (.slice none 0 0), I (mayErr s m n r)] ∧ TailIs w' (ftp tb mb m) (fpM m) tb mb s m
  else ∃ m' vw, v = .tuple #[(feedTold s r (cont m)).v vw, I 0] ∧ Sl w' (fun k => fpM m k ∨ wa.heap.size ≤ k) 4 vw ((feedTold s r (cont m)).writes.map KV.l) ∧
    cont m' = feedC n r (cont m) ∧ SepM m' ∧ (∀ k, fpM m' k → fpM m k ∨ wa.heap.size ≤ k) ∧ TailIs w' (ftp tb mb m') (fpM m') tb mb (feedS s r) m'
theorem d_tail_Feed {w : World} {X A : XS} {tb mb : Nat} {s : TailS} {m : TailM} {n : Int} {r : Rec} {vr vw vp vq vh vd : Value} (h : TailIs w X (fpM m) tb mb s m) (hX : ∀ k, X k → k < w.heap.size)
    (ha : r.at w A vr vw vp vq vh vd) (hA : ∀ k, A k → X k ∧ ¬ ftp tb mb m k) (hsm : r.small) (hsep : SepM m) (hok : OkM m) (hml : m.length ≤ 2 ^ 40) (hnx : 1 ≤ s.next) :
    Ct Tryz.prog 10 #[ptr tb 0, I n, r.v vr vw vp vq vh vd] w X (ftp tb mb m) fun v wa w' => FeedQ s m tb mb n r v wa w' := by
  intro w0 hk
  replace h := h.mv hX hk.mvo
  have hao := ha.mv (Mv.trans (Y := out (ftp tb mb m) w0) (w' := w0) (fun k hk' hl => ⟨⟨Nat.lt_of_lt_of_le hl hk.size, (hA k hk').2⟩, hk.block k (hA k hk').1⟩) (Mv.refl _ _))
  replace ha := ha.mv ((Mv.sub fun k hk' => (hA k hk').1).trans hk.mvo)
  have h1 := hao.1
  have h2 := hao.2.1
  have h6 := hao.2.2.2.2.2
  have hl6 := h6.len
  have hF : ∀ k, ftp tb mb m k → k < w0.heap.size := fun k hk' => by
    rcases hk' with h' | h' | h'
    · rw [h']; exact h.box.lt
    · rw [h']; exact h.opn.x.2
    · exact (h.fp k h').2
  obtain ⟨br, nr, cr, rfl⟩ := h1.form
  obtain ⟨bw, nw, cw, rfl⟩ := h2.form
  apply ok_tail_Tail_Feed; unfold vc_tail_Tail_Feed
  have hs := Since.out (ftp tb mb m) w0
  refine r_ct0V (d_tail_may (r := r) h hs.has ha hsm) (by kernel_rfl) hs.has fun w X hs1 => ?_
  replace hs := hs.trans hs1
  have hT := h.mv (fun k h => h) hs1.mv
  have hbox := hT.box
  repeat' first
    | with_reducible apply condW_T
    | with_reducible apply condW_F
    | ((with_reducible apply m_sub); (· (simp only [Value.cells, List.toList_toArray, List.take_succ_cons, List.drop_succ_cons, List.take_zero, List.drop_zero, List.take_nil, setL, List.length_cons, List.length_nil, List.cons_append, List.nil_append, Nat.reduceAdd, Nat.zero_add]; try rfl)))
    | with_reducible apply un_box
    | with_reducible apply r_nil
    | (with_reducible apply r_neq <;> intro _)
    | ((with_reducible apply m_fld1); (· (first | assumption | exact RowIs.cells (by assumption))); (· kernel_rfl); (· rfl); intro _ _ _)
    | ((with_reducible apply m_ld1); (· (first | assumption | exact RowIs.cells (by assumption))); (· (first | exact Mv.refl _ _ | exact Since.mv (by assumption) | exact Since.mv (Since.trans (by assumption) (by assumption)))); (· kernel_rfl); (· rfl))
    | ((with_reducible apply r_bld); (· kernel_rfl))
    | ((with_reducible apply m_chkc); (case h => (repeat' first | with_reducible apply all_one_cons | with_reducible exact all_one_nil | assumption | rfl | exact Sl.one (by assumption) | exact Rws.one (by assumption) | exact Sl.one (Own.sl (by assumption)))))
    | ((with_reducible apply chk_T); (· first | rfl | assumption | exact Sl.one (by assumption) | exact Rws.one (by assumption)))
  · refine fin_ret hs fun wa hk => ?_
    show FeedQ s m tb mb n r _ w0 wa
    unfold FeedQ
    rw [if_pos (by assumption)]
    exact ⟨rfl, TailIs.tight (hT.mv hs.has hk.mv)⟩
  · have hm0 : mayErr s m n r = 0 := by assumption
    have hns : n = s.next ∧ n ≤ 99999999 := by
      have := hm0
      unfold mayErr at this
      split at this
      · omega
      · omega
    obtain ⟨hns, hn9⟩ := hns
    have hend : ∀ (v : Value) (wa : World) (m' : TailM) (vw : Value), v = .tuple #[(feedTold s r (cont m)).v vw, I 0] → Sl wa (fun k => fpM m k ∨ w0.heap.size ≤ k) 4 vw ((feedTold s r (cont m)).writes.map KV.l) →
        cont m' = feedC n r (cont m) → SepM m' → (∀ k, fpM m' k → fpM m k ∨ w0.heap.size ≤ k) → TailIs wa (ftp tb mb m') (fpM m') tb mb (feedS s r) m' → FeedQ s m tb mb n r v w0 wa := by
      intro v wa m' vw q1 q2 q3 q4 q5 q6
      unfold FeedQ
      rw [if_neg (by simpa using hm0)]
      exact ⟨m', vw, q1, q2, q3, q4, q5, q6⟩
    generalize FeedQ s m tb mb n r = Q at hend ⊢
    repeat' first
      | with_reducible apply r_nil
      | ((with_reducible apply m_fld1); (· (first | assumption | exact RowIs.cells (by assumption))); (· kernel_rfl); (· rfl); intro _ _ _)
      | ((with_reducible apply r_add); (· omega); (· omega))
    refine m_tailNext hT (by assumption) hs.has fun w2 X2 hc hT2 => ?_
    replace hs := hs.chg hc fun k hk e => hk.2 (.inl e)
    have hsz := hs.kp.size
    clear hbox hc hs1 hT
    have hbox := hT2.box
    refine jn_by (fun k => ∀ w X (m' : TailM), Since (out (ftp tb mb m) w0) w0 X w → TailIs w X (fpM m') tb mb (feedS s r) m' → SepM m' → cont m' = feedC n r (cont m) → (∀ k, fpM m' k → fpM m k ∨ w0.heap.size ≤ k) → feedTold s r (cont m) = .none → k w X) ?_ ?_
    · intro w X m' hs hT hsep hc hfp ht
      repeat' first
        | ((with_reducible apply m_sub); (· (simp only [Value.cells, List.toList_toArray, List.take_succ_cons, List.drop_succ_cons, List.take_zero, List.drop_zero, List.take_nil, setL, List.length_cons, List.length_nil, List.cons_append, List.nil_append, Nat.reduceAdd, Nat.zero_add]; try rfl)))
        | with_reducible apply un_box
        | ((with_reducible apply r_bld); (· kernel_rfl))
        | ((with_reducible apply m_chkc); (case h => (repeat' first | with_reducible apply all_one_cons | with_reducible exact all_one_nil | assumption | rfl | exact Sl.one (by assumption) | exact Rws.one (by assumption) | exact Sl.one (Own.sl (by assumption)))))
        | ((with_reducible apply chk_T); (· first | rfl | assumption | exact Sl.one (by assumption) | exact Rws.one (by assumption)))
      refine fin_ret hs fun wa hk => hend _ wa m' (.slice none 0 0) ?_ ?_ hc hsep hfp (TailIs.tight (hT.mv hs.has hk.mv))
      · rw [ht]; rfl
      · rw [ht]; exact Sl.nil _ _ _
    have hX2 := hs.has
    intro K hK
    repeat' first
      | with_reducible apply condW_T
      | with_reducible apply condW_F
      | with_reducible apply r_nil
      | (with_reducible apply r_eql <;> intro _)
      | ((with_reducible apply m_fld1); (· (first | assumption | exact RowIs.cells (by assumption))); (· kernel_rfl); (· rfl); intro _ _ _)
      | ((with_reducible apply m_fld); (· (first | assumption | exact RowIs.cells (by assumption))); (· kernel_rfl); (· rfl); (· (simp only [Value.cells, List.toList_toArray, List.take_succ_cons, List.drop_succ_cons, List.take_zero, List.drop_zero, List.take_nil, setL, List.length_cons, List.length_nil, List.cons_append, List.nil_append, Nat.reduceAdd, Nat.zero_add]; try rfl)); intro _ _ _)
      | ((with_reducible apply m_ld1); (· (first | assumption | exact RowIs.cells (by assumption))); (· (first | exact Mv.refl _ _ | exact Since.mv (by assumption) | exact Since.mv (Since.trans (by assumption) (by assumption)))); (· kernel_rfl); (· rfl))
      | ((with_reducible apply m_ldA); (· (first | assumption | exact RowIs.cells (by assumption))); (· (first | exact Mv.refl _ _ | exact Since.mv (by assumption) | exact Since.mv (Since.trans (by assumption) (by assumption)))); (· kernel_rfl); (· rfl))
      | ((with_reducible apply r_bld); (· kernel_rfl))
      | ((with_reducible refine r_pure (c_hlc_Later _ _) ?_ hs.has ?_); (· kernel_rfl); intro w X hs1; replace hs := hs.trans hs1)
    · have hk1 := ‹r.kind = 1›
      refine m_tailClosed (c := s.closed.later r.state.closed) (hT2.mv hX2 hs1.mv) (by assumption) hs.has fun w3 X3 hc3 hT3 => ?_
      have hF1 := hsz
      clear hbox hT2 hs1
      have hbox := hT3.box
      replace hs := hs.chg hc3 fun k hk e => hk.2 (.inl e)
      repeat' first
        | ((with_reducible apply m_lnR); (· assumption); (· kernel_rfl))
      refine lp1_of (fun n' a w X => ∃ (i : Nat) (mi : TailM), a = I (i : Nat) ∧ n' = r.state.pend.length - i ∧ i ≤ r.state.pend.length ∧ Since (out (ftp tb mb m) w0) w0 X w ∧ TailIs w X (fpM mi) tb mb ⟨s.id, s.next + 1, s.closed.later r.state.closed⟩ mi ∧
        SepM mi ∧ cont mi = (r.state.pend.take i).foldl (fun c p => putM p.txn (p, n) c) (cont m) ∧ (∀ k, fpM mi k → fpM m k ∨ w0.heap.size ≤ k)) r.state.pend.length
        ⟨0, m, rfl, rfl, Nat.zero_le _, hs, hT3, hsep, rfl, fun k hk => .inl hk⟩ ?_
      clear hs hT3 hsep hc3 hbox
      rintro n' a w X ⟨i, mi, rfl, rfl, hi, hs, hT, hsep, hcont, hfp⟩
      have hbox := hT.box
      rcases at_or r.state.pend i with ⟨hlt, x, hx, hd⟩ | ⟨hge, hd⟩
      · have hxs := hsm.state.p x (List.mem_of_getElem? hx)
        repeat' first
          | ((with_reducible refine r_lssT ?_ ?_); (· omega))
          | with_reducible apply condW_T
          | ((with_reducible apply m_sub); (· (simp only [Value.cells, List.toList_toArray, List.take_succ_cons, List.drop_succ_cons, List.take_zero, List.drop_zero, List.take_nil, setL, List.length_cons, List.length_nil, List.cons_append, List.nil_append, Nat.reduceAdd, Nat.zero_add]; try rfl)))
          | with_reducible apply un_box
          | with_reducible apply r_nil
          | ((with_reducible apply m_fld1); (· (first | assumption | exact RowIs.cells (by assumption))); (· kernel_rfl); (· rfl); intro _ _ _)
          | ((with_reducible apply m_ld1); (· (first | assumption | exact RowIs.cells (by assumption))); (· (first | exact Mv.refl _ _ | exact Since.mv (by assumption) | exact Since.mv (Since.trans (by assumption) (by assumption)))); (· kernel_rfl); (· rfl))
          | ((with_reducible apply m_ldA); (· (first | assumption | exact RowIs.cells (by assumption))); (· (first | exact Mv.refl _ _ | exact Since.mv (by assumption) | exact Since.mv (Since.trans (by assumption) (by assumption)))); (· kernel_rfl); (· rfl))
          | ((with_reducible apply m_ixP); (· assumption); (try (case hz => rfl)); (case hr => first | assumption | exact List.getElem?_eq_getElem (by omega)); (try (case hz => omega)); (case ht => kernel_rfl); (case hs => kernel_rfl); intros)
          | ((with_reducible apply m_chkc); (case h => (repeat' first | with_reducible apply all_one_cons | with_reducible exact all_one_nil | assumption | rfl | exact Sl.one (by assumption) | exact Rws.one (by assumption) | exact Sl.one (Own.sl (by assumption)))))
          | ((with_reducible apply chk_T); (· first | rfl | assumption | exact Sl.one (by assumption) | exact Rws.one (by assumption)))
        refine r_ct0 (d_tail_clone (p := x) (Sl.mv (by assumption) hs.mv) (Sl.mv (by assumption) hs.mv) hxs.1 hxs.2) (by kernel_rfl) hs.has ?_
        rintro v wa w3 X3 ⟨ur, uw, rfl, ho1, ho2, h12⟩ hle hin hs3
        have hT3 := hT.mv hs.has hs3.mv
        have hT6 := hT
        have hlo := hs.kp.size
        have o1 := ho1.sl.one
        have o2 := ho2.sl.one
        replace hs := hs.trans hs3
        clear hbox
        have hbox := hT3.box
        repeat' first
          | ((with_reducible apply un_cell); (· rfl))
          | ((with_reducible apply m_sub); (· (simp only [Value.cells, List.toList_toArray, List.take_succ_cons, List.drop_succ_cons, List.take_zero, List.drop_zero, List.take_nil, setL, List.length_cons, List.length_nil, List.cons_append, List.nil_append, Nat.reduceAdd, Nat.zero_add]; try rfl)))
          | ((with_reducible apply r_bld); (· kernel_rfl))
        let a : Opn := { p := x, at' := n, br := ur.ownBlock, bw := uw.ownBlock }
        have hlow : ∀ g, a.br = some g ∨ a.bw = some g → wa.heap.size ≤ g := fun g hg => by
          rcases hg with hg | hg
          · exact (ho1.ge hg).1
          · exact (ho2.ge hg).1
        refine m_tailPut (k := x.txn) (a := a) (vr := ur) (vw := uw) (lo := wa.heap.size) hT3 hsep hs.has rfl (ho1.mono hin) (ho2.mono hin) rfl rfl (fun g hg hb => h12 g hg hb) (fun g hg => ?_) fun w4 X4 m4 hc4 hT4 hsep4 hcont4 hfp4 => ?_
        · have hg1 := hlow g hg
          have := hT6.box.lt
          have := hT6.opn.x.2
          exact ⟨fun hf => by have := (hT6.fp g hf).2; omega, by omega, by omega⟩
        replace hs := hs.chg hc4 fun k hk e => hk.2 (.inr (.inl e))
        clear hbox
        have hbox := hT4.box
        repeat' first
          | ((with_reducible apply r_add); (· omega); (· omega))
        refine nx1_of (r.state.pend.length - (i + 1)) (by omega) ⟨i + 1, m4, by simp, rfl, by omega, hs, hT4, hsep4, ?_, fun k hk => ?_⟩
        · rw [hcont4, hcont, List.take_add_one, hx]; simp [a]
        · rcases hfp4 k hk with h | h
          · exact hfp k h
          · have := hlow k h; right; omega
      · rw [List.take_of_length_le hge] at hcont
        repeat' first
          | ((with_reducible refine r_lssF ?_ ?_); (· omega))
          | with_reducible apply condW_F
        refine hK _ _ mi hs ?_ hsep ?_ hfp ?_
        · have : feedS s r = ⟨s.id, s.next + 1, s.closed.later r.state.closed⟩ := by simp [feedS, hk1]
          rw [this]; exact hT
        · rw [hcont]; simp [feedC, hk1]
        · simp [feedTold, hk1]
    · have hk3 := ‹r.kind = 3›
      refine r_ct0 (d_tail_clone (p := (⟨r.txn, r.stamp, r.reads, r.writes⟩ : Pend)) (h1.mv hs.mv) (h2.mv hs.mv) hsm.reads hsm.writes) (by kernel_rfl) hs.has ?_
      rintro v wa w3 X3 ⟨ur, uw, rfl, ho1, ho2, h12⟩ hle hin hs3
      have hT3 := hT2.mv hs.has hs3.mv
      have hT6 := hT2
      have hlo := hs.kp.size
      have o1 := ho1.sl.one
      have o2 := ho2.sl.one
      replace hs := hs.trans hs3
      clear hbox
      have hbox := hT3.box
      repeat' first
        | ((with_reducible apply un_cell); (· rfl))
        | ((with_reducible apply r_bld); (· kernel_rfl))
      let a : Opn := { p := (⟨r.txn, r.stamp, r.reads, r.writes⟩ : Pend), at' := n, br := ur.ownBlock, bw := uw.ownBlock }
      have hlow : ∀ g, a.br = some g ∨ a.bw = some g → wa.heap.size ≤ g := fun g hg => by
        rcases hg with hg | hg
        · exact (ho1.ge hg).1
        · exact (ho2.ge hg).1
      refine m_tailPut (k := r.txn) (a := a) (vr := ur) (vw := uw) (lo := wa.heap.size) hT3 hsep hs.has rfl (ho1.mono hin) (ho2.mono hin) rfl rfl (fun g hg hb => h12 g hg hb) (fun g hg => ?_) fun w4 X4 m4 hc4 hT4 hsep4 hcont4 hfp4 => ?_
      · have hg1 := hlow g hg
        have := hT6.box.lt
        have := hT6.opn.x.2
        exact ⟨fun hf => by have := (hT6.fp g hf).2; omega, by omega, by omega⟩
      replace hs := hs.chg hc4 fun k hk e => hk.2 (.inr (.inl e))
      clear hbox
      have hbox := hT4.box
      refine hK _ _ m4 hs ?_ hsep4 ?_ (fun k hk => ?_) ?_
      · have : feedS s r = ⟨s.id, s.next + 1, s.closed⟩ := by simp [feedS, hk3]
        rw [this]; exact hT4
      · rw [hcont4]; simp [feedC, hk3, a]
      · rcases hfp4 k hk with h | h
        · exact .inl h
        · have := hlow k h; right; omega
      · simp [feedTold, hk3]
    · have hk4 := ‹r.kind = 4›
      refine m_mapGet (kv := fun k : Txn => k.v) (k := r.txn) (kt := 39) (et := 90) (.agg #[I 0, I 0, I 0, I 0, I 0, I 0, .slice none 0 0, .slice none 0 0, I 0]) hT2.opn key_txn (by kernel_rfl) (by kernel_rfl) (fun v q hg hrd => ?_) fun hg => ?_
      · obtain ⟨ur, uw, rfl, q1, q2, q3⟩ := hrd
        have o1 := q1.sl.one
        have o2 := q2.sl.one
        obtain ⟨b3, n3, c3, rfl⟩ := q2.sl.form
        repeat' first
          | with_reducible apply un_box
          | with_reducible apply r_nil
          | ((with_reducible apply m_fld1); (· (first | assumption | exact RowIs.cells (by assumption))); (· kernel_rfl); (· rfl); intro _ _ _)
          | ((with_reducible apply m_ld1); (· (first | assumption | exact RowIs.cells (by assumption))); (· (first | exact Mv.refl _ _ | exact Since.mv (by assumption) | exact Since.mv (Since.trans (by assumption) (by assumption)))); (· kernel_rfl); (· rfl))
          | ((with_reducible apply m_ext); (· rfl))
          | ((with_reducible apply m_chkc); (case h => (repeat' first | with_reducible apply all_one_cons | with_reducible exact all_one_nil | assumption | rfl | exact Sl.one (by assumption) | exact Rws.one (by assumption) | exact Sl.one (Own.sl (by assumption)))))
          | ((with_reducible apply chk_T); (· first | rfl | assumption | exact Sl.one (by assumption) | exact Rws.one (by assumption)))
        refine m_tailDel hT2 hsep hs.has fun w3 X3 hc3 hT3 hsep3 => ?_
        have q4 := q2.mv (Y := fpM m) (w' := w3) fun k hk _ => ⟨hk, hc3.block k (hT2.sub k hk) (hT2.off k hk).2⟩
        replace hs := hs.chg hc3 fun k hk e => hk.2 (.inr (.inl e))
        have hbox := hT3.box
        have q5 := q4.sl.mv (Mv.sub (hT2.sub))
        have q6 := q5.mv (Mv.sub hc3.sub)
        have hgc : getM r.txn (cont m) = some (q.p, q.at') := by rw [getM_cont, hg]; rfl
        have hK4 : feedTold s r (cont m) = .none → K w3 X3 := fun hn => by
          refine hK _ _ _ hs ?_ hsep3 ?_ (fun k hk => .inl (fpM_del hk)) hn
          · have : feedS s r = ⟨s.id, s.next + 1, s.closed⟩ := by simp [feedS, hk4]
            rw [this]; exact hT3
          · simp only [feedC, hk4]; simpa using delM_cont r.txn m
        cases hcm : r.commit
        · repeat' first
            | with_reducible apply condW_F
            | ((with_reducible apply un_cell); (· rfl))
            | with_reducible apply un_selT
            | with_reducible apply un_selFT
            | with_reducible apply grdW_offT
            | with_reducible apply rdW_pickT
            | with_reducible apply rdW_pickF
            | ((with_reducible apply chk_T); (· first | rfl | assumption | exact Sl.one (by assumption) | exact Rws.one (by assumption)))
          exact hK4 (by simp [feedTold, hk4, hgc, hcm])
        · repeat' first
            | with_reducible apply condW_T
            | with_reducible apply condW_F
            | ((with_reducible apply un_cell); (· rfl))
            | ((with_reducible apply m_sub); (· (simp only [Value.cells, List.toList_toArray, List.take_succ_cons, List.drop_succ_cons, List.take_zero, List.drop_zero, List.take_nil, setL, List.length_cons, List.length_nil, List.cons_append, List.nil_append, Nat.reduceAdd, Nat.zero_add]; try rfl)))
            | with_reducible apply un_box
            | with_reducible apply un_selT
            | with_reducible apply grdV_onT
            | with_reducible apply rdW_pickT
            | with_reducible apply r_nil
            | (with_reducible apply r_gtr <;> intro _)
            | ((with_reducible apply m_fld1); (· (first | assumption | exact RowIs.cells (by assumption))); (· kernel_rfl); (· rfl); intro _ _ _)
            | ((with_reducible apply m_ld1); (· (first | assumption | exact RowIs.cells (by assumption))); (· (first | exact Mv.refl _ _ | exact Since.mv (by assumption) | exact Since.mv (Since.trans (by assumption) (by assumption)))); (· kernel_rfl); (· rfl))
            | ((with_reducible apply m_lnS); (· (first | assumption | exact Own.sl (by assumption))); (· kernel_rfl))
            | ((with_reducible apply r_bld); (· kernel_rfl))
            | ((with_reducible apply m_chkc); (case h => (repeat' first | with_reducible apply all_one_cons | with_reducible exact all_one_nil | assumption | rfl | exact Sl.one (by assumption) | exact Rws.one (by assumption) | exact Sl.one (Own.sl (by assumption)))))
            | ((with_reducible apply chk_T); (· first | rfl | assumption | exact Sl.one (by assumption) | exact Rws.one (by assumption)))
          · refine fin_ret hs fun wb hk => hend _ wb (delM r.txn m) (.slice b3 n3 c3) ?_ ?_ ?_ hsep3 (fun k hk => .inl (fpM_del hk)) ?_
            · have hlen : 0 < q.p.writes.length := by omega
              simp [feedTold, hk4, hgc, hcm, hlen, ToldS.v]
            · have hlen : 0 < q.p.writes.length := by omega
              have : (feedTold s r (cont m)).writes = q.p.writes := by simp [feedTold, hk4, hgc, hcm, hlen]
              rw [this]
              exact q4.sl.mv fun k hk' hl => ⟨.inl hk', hk.block k (hc3.sub k (hT2.sub k hk'))⟩
            · simp only [feedC, hk4]; simpa using delM_cont r.txn m
            · have : feedS s r = ⟨s.id, s.next + 1, s.closed⟩ := by simp [feedS, hk4]
              rw [this]
              exact TailIs.tight (hT3.mv hs.has hk.mv)
          · exact hK4 (by
              have hlen : ¬ 0 < q.p.writes.length := by omega
              simp [feedTold, hk4, hgc, hcm]; omega)
      · repeat' first
          | with_reducible apply un_box
          | with_reducible apply r_nil
          | ((with_reducible apply m_fld1); (· (first | assumption | exact RowIs.cells (by assumption))); (· kernel_rfl); (· rfl); intro _ _ _)
          | ((with_reducible apply m_ld1); (· (first | assumption | exact RowIs.cells (by assumption))); (· (first | exact Mv.refl _ _ | exact Since.mv (by assumption) | exact Since.mv (Since.trans (by assumption) (by assumption)))); (· kernel_rfl); (· rfl))
          | ((with_reducible apply m_ext); (· rfl))
          | ((with_reducible apply m_chkc); (case h => (repeat' first | with_reducible apply all_one_cons | with_reducible exact all_one_nil | assumption | rfl | exact Sl.one (by assumption) | exact Rws.one (by assumption) | exact Sl.one (Own.sl (by assumption)))))
          | ((with_reducible apply chk_T); (· first | rfl | assumption | exact Sl.one (by assumption) | exact Rws.one (by assumption)))
        refine m_tailDel hT2 hsep hs.has fun w3 X3 hc3 hT3 hsep3 => ?_
        replace hs := hs.chg hc3 fun k hk e => hk.2 (.inr (.inl e))
        have hgc : getM r.txn (cont m) = none := by rw [getM_cont, hg]; rfl
        repeat' first
          | with_reducible apply condW_F
          | ((with_reducible apply un_cell); (· rfl))
          | with_reducible apply un_selFT
          | with_reducible apply grdW_offT
          | with_reducible apply rdW_pickF
          | ((with_reducible apply chk_T); (· first | rfl | assumption | exact Sl.one (by assumption) | exact Rws.one (by assumption)))
        refine hK _ _ _ hs ?_ hsep3 ?_ (fun k hk => .inl (fpM_del hk)) ?_
        · have : feedS s r = ⟨s.id, s.next + 1, s.closed⟩ := by simp [feedS, hk4]
          rw [this]; exact hT3
        · simp only [feedC, hk4]; simpa using delM_cont r.txn m
        · simp [feedTold, hk4, hgc]
    · have hk5 := ‹r.kind = 5›
      refine m_tailClosed (c := s.closed.later r.stamp) (hT2.mv hX2 hs1.mv) (by assumption) hs.has fun w3 X3 hc3 hT3 => ?_
      replace hs := hs.chg hc3 fun k hk e => hk.2 (.inl e)
      refine hK _ _ m hs ?_ hsep ?_ (fun k hk => .inl hk) ?_
      · have : feedS s r = ⟨s.id, s.next + 1, s.closed.later r.stamp⟩ := by simp [feedS, hk5]
        rw [this]; exact hT3
      · simp [feedC, hk5]
      · simp [feedTold, hk5]
    · have hk6 := ‹r.kind = 6›
      refine r_ct (d_tail_split hT2 hX2 (hao.mv hs.mv) hsep hok hml) (by kernel_rfl) hs.has (fun k hk => ?_) ?_
      · rcases hk with rfl | rfl | hk
        · exact hT2.box.1
        · exact hT2.opn.x.1
        · exact hT2.sub k hk
      rintro v wa w3 X3 ⟨m', hcont, hsep3, hfp, hT3, rfl⟩ hle hin hkp hc3
      have hlo := hs.kp.size
      have hT4 := hT3.wide (Y := X3) fun k hk => by
        rcases hk with rfl | rfl | hk
        · exact hc3.sub _ hT2.box.1
        · exact hc3.sub _ hT2.opn.x.1
        · rcases hfp k hk with h | h
          · exact hc3.sub _ (hT2.sub k h)
          · exact hin k ⟨h, (hT3.fp k hk).2⟩
      replace hs := hs.chg hc3 fun k hk e => hk.2 e
      repeat' first
        | ((with_reducible apply m_sub); (· (simp only [Value.cells, List.toList_toArray, List.take_succ_cons, List.drop_succ_cons, List.take_zero, List.drop_zero, List.take_nil, setL, List.length_cons, List.length_nil, List.cons_append, List.nil_append, Nat.reduceAdd, Nat.zero_add]; try rfl)))
        | with_reducible apply un_box
        | ((with_reducible apply m_chkc); (case h => (repeat' first | with_reducible apply all_one_cons | with_reducible exact all_one_nil | assumption | rfl | exact Sl.one (by assumption) | exact Rws.one (by assumption) | exact Sl.one (Own.sl (by assumption)))))
        | ((with_reducible apply chk_T); (· first | rfl | assumption | exact Sl.one (by assumption) | exact Rws.one (by assumption)))
      refine fin_ret hs fun wb hk => hend _ wb m' (.slice none 0 0) ?_ ?_ ?_ hsep3 (fun k hk => ?_) ?_
      · have : feedTold s r (cont m) = ⟨2, 0, 0, ⟨0, 0, 0⟩, .zero, [], r.n, resC (s.closed.later r.stamp) (cont m)⟩ := by simp [feedTold, hk6]
        rw [this, resGo_cont, hcont, resC_cut]
      · have : (feedTold s r (cont m)).writes = [] := by simp [feedTold, hk6]
        rw [this]; exact Sl.nil _ _ _
      · rw [hcont]; simp [feedC, hk6]
      · rcases hfp k hk with h | h
        · exact .inl h
        · right; omega
      · have : feedS s r = ⟨s.id, s.next + 1, s.closed.later r.stamp⟩ := by simp [feedS, hk6]
        rw [this]
        exact TailIs.tight (hT4.mv hs.has hk.mv)
    · refine hK _ _ m hs ?_ hsep ?_ (fun k hk => .inl hk) ?_
      · have : feedS s r = ⟨s.id, s.next + 1, s.closed⟩ := by simp [feedS, *]
        rw [this]; exact hT2
      · simp [feedC, *]
      · simp [feedTold, *]
end Go.Proofs.YtnphlhpdikmpiaaGreat
