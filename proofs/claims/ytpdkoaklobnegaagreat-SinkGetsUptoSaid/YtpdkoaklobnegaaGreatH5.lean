/-
  Part 5 of the proof: what the last text leans on.
-/
import Derived.Test.YtpdkoaklobnegaaGreatH4
namespace Go.Proofs.YtpdkoaklobnegaaGreat
open Go.Eng
set_option maxRecDepth 100000
set_option maxHeartbeats 1000000
set_option linter.unusedVariables false
set_option linter.unusedSimpArgs false
attribute [local irreducible] un jn chk fld ld1 ldA st1 ixS lnS lnT bld cvI cvF ixA bsS apS rdV rdW grdW eW eV eU eC eF gE condW fin pickN nilN binS vS lp0 lp1 lp2 lp3 lp4 lp5 lp6 lp7 nx0 nx1 nx2 nx3 nx4 nx5 nx6 nx7
section
variable {w : World} {X F : XS} {lb db : Nat} {sv : Value} {bl : List SegL} {L : LM}
theorem d_wal_last {bl' : List SegL} {s : SegL} (h : LgL w F lb db sv (bl' ++ [s]) L) (hF : FX F X w) : Ct Tryz.prog 85 #[ptr lb 0] w X nX fun v wa w' => v = ptr s.b 0 := by
  intro w0 hk
  replace h := h.mv (hF.mv hk)
  have hX := fun k hk' => (hF.kp hk k hk').1
  have hb := h.box.mv (Mv.sub hX)
  have hso := h.so.sl.mono hX
  have hlen := hso.len'
  have hl2 : (bl' ++ [s]).length = bl'.length + 1 := by simp
  have hget : (bl' ++ [s])[bl'.length]? = some s := by simp
  apply ok_wal_Log_last; unfold vc_wal_Log_last
  have hs := Since.init w0
  repeat' first | with_reducible apply r_nil | ((with_reducible apply m_fld1); (· exact qF); (· kernel_rfl); (· rfl); intro _ _ _) | ((with_reducible apply m_ld1); (· exact qF); (· exact qM); (· kernel_rfl); (· rfl)) | ((with_reducible apply m_lnS); (· exact qO); (· kernel_rfl)) | ((with_reducible apply m_ixS); (· exact qO); (try (case hz => rfl)); (case hr => exact qR); (try (case hz => omega)); (case ht => kernel_rfl); (case hs => kernel_rfl); intro _ _ _) | ((with_reducible apply r_sub); (· omega); (· omega)) | ((first | (with_reducible refine fin_ret0 hs ?_) | (with_reducible refine fin_ret0 (hs0.trans hs) ?_)); intro wa hk; rfl)
theorem d_wal_Next (h : LgL w F lb db sv bl L) (hL : LOK L) (hF : FX F X w) : Ct Tryz.prog 43 #[ptr lb 0] w X nX fun v wa w' => v = I L.next := by
  intro w0 hk
  obtain ⟨bl', s, rfl, he, _⟩ := h.last hL
  replace h := h.mv (hF.mv hk)
  have hX := fun k hk' => (hF.kp hk k hk').1
  have hmem : s ∈ bl' ++ [s] := by simp
  have hb := (h.row s hmem).mv (Mv.sub hX)
  have hr := (h.rcs s hmem).sl.mono hX
  have hn := hL.next
  have hnx : L.next = s.first + s.rs.length := by unfold LM.next; rw [← he]; simp [SegL.er]
  have hF0 : FX F (old w0) w0 := hF.kp hk
  apply ok_wal_Log_Next; unfold vc_wal_Log_Next
  have hs := Since.init w0
  refine r_ct0 (d_wal_last h hF0) (by kernel_rfl) hs.has ?_
  rintro _ wa w1 X1 rfl hle hin hs1
  replace hs := hs.trans hs1
  have hb1 := hb.since hs
  repeat' first | with_reducible apply r_nil | ((with_reducible apply m_fld1); (· exact qF); (· kernel_rfl); (· rfl); intro _ _ _) | ((with_reducible apply m_ld1); (· exact qF); (· exact qM); (· kernel_rfl); (· rfl))
  refine r_ct0 (d_wal_last (h.mv (hs.mvF hX)) fun k hk' => ⟨hs.sub k (hX k hk'), hs.has k (hs.sub k (hX k hk'))⟩) (by kernel_rfl) hs.has ?_
  rintro _ wa2 w2 X2 rfl hle2 hin2 hs2
  replace hs := hs.trans hs2
  have hb2 := hb.since hs
  have hr2 := hr.since hs
  clear hb1
  repeat' first | with_reducible apply r_nil | ((with_reducible apply m_fld1); (· exact qF); (· kernel_rfl); (· rfl); intro _ _ _) | ((with_reducible apply m_ld1); (· exact qF); (· exact qM); (· kernel_rfl); (· rfl)) | ((with_reducible apply m_lnS); (· exact qO); (· kernel_rfl)) | ((with_reducible apply r_add); (· omega); (· omega)) | ((first | (with_reducible refine fin_ret0 hs ?_) | (with_reducible refine fin_ret0 (hs0.trans hs) ?_)); intro wa hk; (rw [hnx]; simp))
theorem d_wal_First (h : LgL w F lb db sv bl L) {s : SegM} {r : List SegM} (hL : L.segs = s :: r) (hF : FX F X w) : Ct Tryz.prog 42 #[ptr lb 0] w X nX fun v wa w' => v = I s.first := by
  intro w0 hk
  have hsg := h.segs
  rw [hL] at hsg
  cases bl with
  | nil => cases hsg
  | cons s' bl' =>
    simp only [List.map_cons, List.cons.injEq] at hsg
    replace h := h.mv (hF.mv hk)
    have hX := fun k hk' => (hF.kp hk k hk').1
    have hb := h.box.mv (Mv.sub hX)
    have hb2 := (h.row s' (by simp)).mv (Mv.sub hX)
    have hso := h.so.sl.mono hX
    apply ok_wal_Log_First; unfold vc_wal_Log_First
    have hs := Since.init w0
    repeat' first | with_reducible apply r_nil | ((with_reducible apply m_fld1); (· exact qF); (· kernel_rfl); (· rfl); intro _ _ _) | ((with_reducible apply m_ld1); (· exact qF); (· exact qM); (· kernel_rfl); (· rfl))
    refine m_ixS (i := 0) hso rfl rfl (by kernel_rfl) (by kernel_rfl) fun b o hc => ?_
    repeat' first | with_reducible apply r_nil | ((with_reducible apply m_fld1); (· exact qF); (· kernel_rfl); (· rfl); intro _ _ _) | ((with_reducible apply m_ld1); (· exact qF); (· exact qM); (· kernel_rfl); (· rfl)) | ((first | (with_reducible refine fin_ret0 hs ?_) | (with_reducible refine fin_ret0 (hs0.trans hs) ?_)); intro wa hk; (rw [hsg.1]; rfl))
end
structure LW (w : World) (F : XS) (lb db : Nat) (L : LM) (m : DM) (FL FD : XS) (sv : Value) (bl : List SegL) : Prop where
  dj : Dj FL FD
  hL : ∀ k, FL k → F k
  hD : ∀ k, FD k → F k
  l : LgL w FL lb db sv bl L
  d : Dk w FD db m
theorem Lg.lw {w : World} {F : XS} {lb db : Nat} {L : LM} {m : DM} (h : Lg w F lb db L m) : ∃ FL FD sv bl, LW w F lb db L m FL FD sv bl := let ⟨FL, FD, sv, bl, a, b, c, d, e⟩ := h; ⟨FL, FD, sv, bl, a, b, c, d, e⟩
theorem LW.lg {w : World} {F FL FD : XS} {lb db : Nat} {L : LM} {m : DM} {sv : Value} {bl : List SegL} (h : LW w F lb db L m FL FD sv bl) : Lg w F lb db L m := ⟨FL, FD, sv, bl, h.dj, h.hL, h.hD, h.l, h.d⟩
section
variable {w w' wa : World} {X X' F F' FL FD FD' : XS} {lb db : Nat} {L : LM} {m m' : DM} {sv : Value} {bl : List SegL}
theorem LW.mv (h : LW w F lb db L m FL FD sv bl) (v : Mv F w F w') : LW w' F lb db L m FL FD sv bl :=
  ⟨h.dj, h.hL, h.hD, h.l.mv fun k hk hl => ⟨hk, (v k (h.hL k hk) hl).2⟩, h.d.mv fun k hk hl => ⟨hk, (v k (h.hD k hk) hl).2⟩⟩
theorem LW.mono (h : LW w F lb db L m FL FD sv bl) (hs : ∀ k, F k → F' k) : LW w F' lb db L m FL FD sv bl := ⟨h.dj, fun k hk => hs k (h.hL k hk), fun k hk => hs k (h.hD k hk), h.l, h.d⟩
theorem LW.disk (h : LW w F lb db L m FL FD sv bl) (hF : FX F X w) (hle : w.heap.size ≤ wa.heap.size) (c : Chg FD X w X' w') (hF' : ∀ k, FD' k → FD k ∨ made wa w' k) (hd : Dk w' FD' db m') : LW w' (fun k => F k ∨ made wa w' k) lb db L m' FL FD' sv bl :=
  ⟨fun k a b => (hF' k b).elim (h.dj k a) fun hm => by have := (hF k (h.hL k a)).2; have := hm.1; omega, fun k hk => .inl (h.hL k hk), fun k hk => (hF' k hk).imp (h.hD k) id,
    h.l.mv (c.mvA fun k hk => ⟨(hF k (h.hL k hk)).1, fun hf => h.dj k hk hf⟩), hd⟩
theorem LgL.setSafe {z : Int} (h : LgL w FL lb db sv bl L) (hX : ∀ k, FL k → X k) (c : Chg (· = lb) X w X' w') (hr : RowIs w' X' lb [ptr db 0, .string L.dir, I L.room, sv, I z] 158) : LgL w' FL lb db sv bl { L with safe := z } := by
  have mv : ∀ {A : XS}, (∀ k, A k → FL k ∧ k ≠ lb) → Mv A w FL w' := fun hA k hk _ => ⟨(hA k hk).1, c.block k (hX k (hA k hk).1) (hA k hk).2⟩
  refine ⟨h.segs, ⟨h.box.1, hr.2⟩, ?_, fun s hs => ?_, fun s hs => ?_, fun s hs r hr => ?_, h.ap⟩
  · exact h.so.tight.mv (mv fun k hk => ⟨(h.so.inX hk).1, fun e => h.so.neRow h.box (by kernel_rfl) (e ▸ hk)⟩)
  · exact (h.row s hs).own.mv (mv fun k hk => by subst hk; exact ⟨(h.row s hs).1, (h.row s hs).neRow h.box (by kernel_rfl)⟩)
  · exact (h.rcs s hs).tight.mv (mv fun k hk => ⟨((h.rcs s hs).inX hk).1, fun e => (h.rcs s hs).neRow h.box (by kernel_rfl) (e ▸ hk)⟩)
  · exact (h.byt s hs r hr).tight.mv (mv fun k hk => ⟨((h.byt s hs r hr).inX hk).1, fun e => (h.byt s hs r hr).neRow h.box (by kernel_rfl) (e ▸ hk)⟩)
end
theorem d_wal_Sync {w : World} {X F : XS} {lb db : Nat} {L : LM} {m : DM} (h : Lg w F lb db L m) (hL : LOK L) (hF : FX F X w) :
    Ct Tryz.prog 104 #[ptr lb 0] w X F fun v wa w' => v = I (LD.sync ⟨L, m⟩).2 ∧ ∃ F', (∀ k, F' k → F k ∨ made wa w' k) ∧ Lg w' F' lb db (LD.sync ⟨L, m⟩).1.L (LD.sync ⟨L, m⟩).1.m := by
  intro w0 hk
  obtain ⟨FL, FD, sv, bl, h⟩ := (h.mv (hF.mv hk)).lw
  have hT := hF.ft hk
  have hF0 : FX F (old w0) w0 := hF.kp hk
  obtain ⟨bl', s, hbl, he, _⟩ := h.l.last hL
  have hFL : FX FL (old w0) w0 := fun k hk' => hF0 k (h.hL k hk')
  have hX := fun k hk' => (hFL k hk').1
  have hb := h.l.box.mv (Mv.sub hX)
  have hmem : s ∈ bl := by rw [hbl]; simp
  have hbs := (h.l.row s hmem).mv (Mv.sub hX)
  have hfirst : s.first = L.last.first := by rw [← he]; rfl
  have hfb := hL.first
  apply ok_wal_Log_Sync; unfold vc_wal_Log_Sync
  have hs := Since.init w0
  repeat' first | with_reducible apply r_nil | ((with_reducible apply m_fld1); (· exact qF); (· kernel_rfl); (· rfl); intro _ _ _) | ((with_reducible apply m_ld1); (· exact qF); (· exact qM); (· kernel_rfl); (· rfl))
  refine r_ct0 (d_wal_last (hbl ▸ h.l) hFL) (by kernel_rfl) hs.has ?_
  rintro _ wa w1 X1 rfl hle hin hs1
  replace hs := hs.trans hs1
  have hbs1 := hbs.since hs
  repeat' first | with_reducible apply r_nil | ((with_reducible apply m_fld1); (· exact qF); (· kernel_rfl); (· rfl); intro _ _ _) | ((with_reducible apply m_ld1); (· exact qF); (· exact qM); (· kernel_rfl); (· rfl))
  rw [hfirst]
  refine r_ct0 (d_wal_file (by have := hL.d2; omega) (by omega)) (by kernel_rfl) hs.has ?_
  rintro _ wa2 w2 X2 rfl hle2 hin2 hs2
  replace hs := hs.trans hs2
  have hT2 := hT.since hs
  have h2 := h.mv (hs.mvF hT.inX)
  refine hT2.call (d_disk_Sync h2.d (hT2.fx h2.hD)) (by kernel_rfl) h2.hD fun v wa3 w3 X3 hq hle3 hin3 hT3 hc3 => ?_
  obtain ⟨rfl, FD', hFD', hD⟩ := hq
  have h3 := h2.disk (hT2.fx fun _ h => h) hle3 hc3 hFD' hD
  have eS : LD.sync ⟨L, m⟩ = (⟨if (m.sync L.lastName).2 = 0 then { L with safe := (L.next : Int) - 1 } else L, (m.sync L.lastName).1⟩, (m.sync L.lastName).2) := rfl
  have eN : L.lastName = fileN L.dir L.last.first := rfl
  rw [eS]
  dsimp only
  rw [eN]
  generalize hms : m.sync (fileN L.dir L.last.first) = ms at h3 ⊢
  have hnx := hL.next
  repeat' first | with_reducible (first | apply condW_T | apply condW_F) | (with_reducible apply r_eql <;> intro _) | with_reducible apply jn_of
  · rename_i hz
    have hz : ms.2 = 0 := by have : (ms.2 : Int) = 0 := by assumption
                             omega
    have hs3 := Since.refl' hT3.s.has
    refine r_ct0 (d_wal_Next h3.l hL (hT3.fx h3.hL)) (by kernel_rfl) hT3.s.has ?_
    rintro _ wa4 w4 X4 rfl hle4 hin4 hs4
    have hT4 := hT3.since hs4
    have h4 := h3.mv (hs4.mvF hT3.inX)
    have hX4 : ∀ k, FL k → X4 k := fun k hk' => hT4.inX k (h4.hL k hk')
    have hb4 := h4.l.box.mv (Mv.sub hX4)
    repeat' first | with_reducible apply r_nil | ((with_reducible apply m_fld1); (· exact qF); (· kernel_rfl); (· rfl); intro _ _ _) | ((with_reducible apply r_sub); (· omega); (· omega))
    refine m_stC (o := 4) hb4 (by omega) (by kernel_rfl) (by simp) rfl hT4.s.has fun w5 X5 c5 hr5 => ?_
    have hT5 := hT4.chg (F' := fun k => F k ∨ made wa3 w3 k) c5 (fun k hk' => by subst hk'; exact h4.hL _ h4.l.box.1) fun k hk' => .inl hk'
    have h5 := h4.l.setSafe hX4 c5 hr5
    refine hT5.fin fun wa hk9 => ⟨rfl, _, hT5.grew hk9 fun _ h => h, ?_⟩
    rw [if_pos hz]
    refine Lg.mv ⟨FL, FD', sv, bl, h4.dj, h4.hL, h4.hD, h5, h4.d.mv (c5.mvA fun k hk' => ⟨hT4.inX k (h4.hD k hk'), fun e => h4.dj k (by rw [e]; exact h4.l.box.1) hk'⟩)⟩ (hk9.mvA hT5.inX)
  · have hz : ¬ ms.2 = 0 := by have : ¬ (ms.2 : Int) = 0 := by assumption
                               omega
    refine hT3.fin fun wa hk9 => ⟨rfl, _, hT3.grew hk9 fun _ h => h, ?_⟩
    rw [if_neg hz]
    exact (h3.mv (hk9.mvA hT3.inX)).lg
section
variable {w w' wa : World} {X X' F F' FL FL' FD FD' G : XS} {lb db : Nat} {L : LM} {m m' : DM} {sv sv' : Value} {bl bl' : List SegL}
theorem LgL.setSegs (h : LgL w FL lb db sv bl L) (hX : FX FL X w) (c : Chg G X w X' w') (hG : ∀ k, G k → k = lb ∨ sv.ownBlock = some k) (hFF : ∀ k, FL k → FL' k)
    (hr : RowIs w' FL' lb [ptr db 0, .string L.dir, I L.room, sv', I L.safe] 158) (ho : Ow w' FL' 164 1 sv' (bl'.map fun s => [ptr s.b 0]))
    (hn : ∀ s ∈ bl', s ∈ bl ∨ (RowIs w' FL' s.b [I s.first, s.rv, I s.size] 163 ∧ Ow w' FL' 95 1 s.rv (s.rs.map fun r => [r.1]) ∧ ∀ r ∈ s.rs, Ow w' FL' 5 1 r.1 (r.2.map U1)))
    (hap : bl'.Pairwise apartS) : LgL w' FL' lb db sv' bl' { L with segs := bl'.map SegL.er } := by
  have mv : ∀ {A : XS}, (∀ k, A k → FL k ∧ k ≠ lb ∧ sv.ownBlock ≠ some k) → Mv A w FL' w' := fun hA k hk _ => by
    obtain ⟨a1, a2, a3⟩ := hA k hk
    exact ⟨hFF k a1, c.block k (hX k a1).1 fun hg => (hG k hg).elim a2 a3⟩
  refine ⟨rfl, hr, ho, fun s hs => ?_, fun s hs => ?_, fun s hs r hr => ?_, hap⟩
  · rcases hn s hs with hs | hs
    · exact (h.row s hs).own.mv (mv fun k hk => by subst hk; exact ⟨(h.row s hs).1, (h.row s hs).neRow h.box (by kernel_rfl), h.so.neRow (h.row s hs) (by kernel_rfl)⟩)
    · exact hs.1
  · rcases hn s hs with hs | hs
    · refine (h.rcs s hs).tight.mv (mv fun k hk => ⟨((h.rcs s hs).inX hk).1, fun e => (h.rcs s hs).neRow h.box (by kernel_rfl) (e ▸ hk), fun e => ?_⟩)
      obtain ⟨c1, h1⟩ := (h.rcs s hs).tag hk
      obtain ⟨c2, h2⟩ := h.so.tag e
      rw [h1] at h2; simp at h2
    · exact hs.2.1
  · rcases hn s hs with hs | hs
    · refine (h.byt s hs r hr).tight.mv (mv fun k hk => ⟨((h.byt s hs r hr).inX hk).1, fun e => (h.byt s hs r hr).neRow h.box (by kernel_rfl) (e ▸ hk), fun e => ?_⟩)
      obtain ⟨c1, h1⟩ := (h.byt s hs r hr).tag hk
      obtain ⟨c2, h2⟩ := h.so.tag e
      rw [h1] at h2; simp at h2
    · exact hs.2.2 r hr
abbrev SegL.more (s : SegL) (rv' pv : Value) (p : List Nat) (z : Nat) : SegL := ⟨s.b, s.first, rv', s.rs ++ [(pv, p)], z⟩
theorem LgL.updLast {s : SegL} {rv' pv : Value} {p : List Nat} {z : Nat} (h : LgL w FL lb db sv (bl ++ [s]) L) (hX : FX FL X w) (c : Chg G X w X' w') (hG : ∀ k, G k → k = s.b ∨ s.rv.ownBlock = some k) (hFF : ∀ k, FL k → FL' k)
    (hr : RowIs w' FL' s.b [I s.first, rv', I z] 163) (ho : Ow w' FL' 95 1 rv' ((s.rs ++ [(pv, p)]).map fun r => [r.1])) (hp : Ow w' FL' 5 1 pv (p.map U1))
    (hat : rv'.ownBlock = s.rv.ownBlock ∨ ∃ g, rv'.ownBlock = some g ∧ w.heap.size ≤ g) :
    LgL w' FL' lb db sv (bl ++ [s.more rv' pv p z]) { L with segs := (bl ++ [s.more rv' pv p z]).map SegL.er } := by
  have hsm : s ∈ bl ++ [s] := by simp
  have mv : ∀ {A : XS}, (∀ k, A k → FL k ∧ k ≠ s.b ∧ s.rv.ownBlock ≠ some k) → Mv A w FL' w' := fun hA k hk _ => by
    obtain ⟨a1, a2, a3⟩ := hA k hk
    exact ⟨hFF k a1, c.block k (hX k a1).1 fun hg => (hG k hg).elim a2 a3⟩
  have rs := h.row s hsm
  have os := h.rcs s hsm
  have hold : ∀ x ∈ bl, x ∈ bl ++ [s] := fun x hx => List.mem_append_left _ hx
  have hpa := List.pairwise_append.1 h.ap
  have far : ∀ x ∈ bl, apartS x s := fun x hx => hpa.2.2 x hx s (by simp)
  have hbyt : ∀ x ∈ bl ++ [s], ∀ r ∈ x.rs, Ow w' FL' 5 1 r.1 (r.2.map U1) := fun x hx r hr => by
    refine (h.byt x hx r hr).tight.mv (mv fun k hk => ⟨((h.byt x hx r hr).inX hk).1, fun e => (h.byt x hx r hr).neRow rs (by kernel_rfl) (e ▸ hk), fun e => ?_⟩)
    obtain ⟨c1, h1⟩ := (h.byt x hx r hr).tag hk
    obtain ⟨c2, h2⟩ := os.tag e
    rw [h1] at h2; simp at h2
  refine ⟨rfl, ?_, ?_, fun x hx => ?_, fun x hx => ?_, fun x hx r hr => ?_, ?_⟩
  · exact h.box.own.mv (mv fun k hk => by subst hk; exact ⟨h.box.1, (rs.neRow h.box (by kernel_rfl)).symm, os.neRow h.box (by kernel_rfl)⟩)
  · have : (bl ++ [s.more rv' pv p z]).map (fun s => [ptr s.b 0]) = (bl ++ [s]).map (fun s => [ptr s.b 0]) := by simp
    rw [this]
    refine h.so.tight.mv (mv fun k hk => ⟨(h.so.inX hk).1, fun e => h.so.neRow rs (by kernel_rfl) (e ▸ hk), fun e => ?_⟩)
    obtain ⟨c1, h1⟩ := h.so.tag hk
    obtain ⟨c2, h2⟩ := os.tag e
    rw [h1] at h2; simp at h2
  · rcases List.mem_append.1 hx with hx | hx
    · have ha := far x hx
      have rx := h.row x (hold x hx)
      exact rx.own.mv (mv fun k hk => by subst hk; exact ⟨rx.1, ha.1, os.neRow rx (by kernel_rfl)⟩)
    · simp only [List.mem_singleton] at hx; subst hx; exact hr
  · rcases List.mem_append.1 hx with hx | hx
    · have ha := far x hx
      have ox := h.rcs x (hold x hx)
      exact ox.tight.mv (mv fun k hk => ⟨(ox.inX hk).1, fun e => ox.neRow rs (by kernel_rfl) (e ▸ hk), fun e => ha.2 k hk e⟩)
    · simp only [List.mem_singleton] at hx; subst hx; exact ho
  · rcases List.mem_append.1 hx with hx | hx
    · exact hbyt x (hold x hx) r hr
    · simp only [List.mem_singleton] at hx; subst hx
      rcases List.mem_append.1 hr with hr | hr
      · exact hbyt s hsm r hr
      · simp only [List.mem_singleton] at hr; subst hr; exact hp
  · refine List.pairwise_append.2 ⟨hpa.1, List.pairwise_singleton _ _, fun x hx y hy => ?_⟩
    simp only [List.mem_singleton] at hy; subst hy
    have ha := far x hx
    refine ⟨ha.1, fun g hg hg' => ?_⟩
    rcases hat with e | ⟨g', e, hge⟩
    · exact ha.2 g hg (e ▸ hg')
    · have := (hX g ((h.rcs x (hold x hx)).inX hg).1).2
      have e2 : rv'.ownBlock = some g := hg'
      rw [e] at e2
      have : g' = g := Option.some.inj e2
      omega
end
theorem d_wal_roll {w : World} {X F : XS} {lb db n : Nat} {L : LM} {m : DM} (h : Lg w F lb db L m) (hd2 : L.dir.size ≤ 11) (hn : n ≤ 2 ^ 40) (hsl : L.segs.length ≤ 2 ^ 30) (hF : FX F X w) :
    Ct Tryz.prog 83 #[ptr lb 0, I n] w X F fun v wa w' => v = I (LD.roll ⟨L, m⟩ n).2 ∧ ∃ F', (∀ k, F' k → F k ∨ made wa w' k) ∧ Lg w' F' lb db (LD.roll ⟨L, m⟩ n).1.L (LD.roll ⟨L, m⟩ n).1.m := by
  intro w0 hk
  obtain ⟨FL, FD, sv, bl, h⟩ := (h.mv (hF.mv hk)).lw
  have hT := hF.ft hk
  have hF0 : FX F (old w0) w0 := hF.kp hk
  have hX := fun k hk' => (hF0 k (h.hL k hk')).1
  have hb := h.l.box.mv (Mv.sub hX)
  apply ok_wal_Log_roll; unfold vc_wal_Log_roll
  have hs := Since.init w0
  repeat' first | with_reducible apply r_nil | ((with_reducible apply m_fld1); (· exact qF); (· kernel_rfl); (· rfl); intro _ _ _) | ((with_reducible apply m_ld1); (· exact qF); (· exact qM); (· kernel_rfl); (· rfl))
  refine r_ct0 (d_wal_file (by omega) (by omega)) (by kernel_rfl) hs.has ?_
  rintro _ wa2 w2 X2 rfl hle2 hin2 hs2
  replace hs := hs.trans hs2
  have hT2 := hT.since hs
  have h2 := h.mv (hs.mvF hT.inX)
  refine hT2.call (d_disk_Create h2.d (hT2.fx h2.hD)) (by kernel_rfl) h2.hD fun v wa3 w3 X3 hq hle3 hin3 hT3 hc3 => ?_
  obtain ⟨rfl, FD', hFD', hD⟩ := hq
  have h3 := h2.disk (hT2.fx fun _ h => h) hle3 hc3 hFD' hD
  have eS : LD.roll ⟨L, m⟩ n = (⟨if (m.create (fileN L.dir n)).2 = 0 then { L with segs := L.segs ++ [⟨n, [], 0⟩] } else L, (m.create (fileN L.dir n)).1⟩, (m.create (fileN L.dir n)).2) := rfl
  rw [eS]
  dsimp only
  generalize hms : m.create (fileN L.dir n) = ms at h3 ⊢
  have hX3 : ∀ k, FL k → X3 k := fun k hk' => hT3.inX k (h3.hL k hk')
  have hb3 := h3.l.box.mv (Mv.sub hX3)
  have hso3 := h3.l.so.mono hX3
  have hbl : bl.length = L.segs.length := by rw [h3.l.segs, List.length_map]
  have o3 := h3.l.so.one
  clear hs
  repeat' first | with_reducible (first | apply condW_T | apply condW_F | apply r_nil) | (with_reducible apply r_eql <;> intro _) | ((with_reducible apply m_fld1); (· exact qF); (· kernel_rfl); (· rfl); intro _ _ _) | ((with_reducible apply m_ld1); (· exact qF); (· exact qM); (· kernel_rfl); (· rfl)) | ((with_reducible apply r_bld); (· kernel_rfl)) | with_reducible apply jn_of
  · have hz : ms.2 = 0 := by have : (ms.2 : Int) = 0 := by assumption
                             omega
    refine m_boxA hT3.s.has fun bx w4 X4 hbx hs4 hrow => ?_
    have hso4 := hso3.mv hs4.mv
    refine m_apO1 (bytes := 8) (row := [ptr bx 0]) hso4 hs4.has (by kernel_rfl) rfl rfl rfl (by simp; omega) (by simp; omega) fun sv' w5 X5 c5 ho5 hat5 => ?_
    have hb4 := hb3.since hs4
    have hne : ∀ q, blk sv q → q ≠ lb := fun q hq e => hso4.neRow hb4 (by kernel_rfl) (by rw [← e]; exact hq)
    have hb5 : RowIs w5 X5 lb [ptr db 0, .string L.dir, I L.room, sv, I L.safe] 158 := ⟨c5.sub _ hb4.1, by rw [c5.block _ hb4.1 fun hq => hne _ hq rfl]; exact hb4.2⟩
    repeat' first | with_reducible apply r_nil | ((with_reducible apply m_fld1); (· exact qF); (· kernel_rfl); (· rfl); intro _ _ _)
    refine m_stC (o := 3) hb5 (by omega) (by kernel_rfl) (by simp) ho5.one c5.has fun w6 X6 c6 hr6 => ?_
    have hsvX : ∀ q, blk sv q → FL q := fun q hq => (h3.l.so.inX hq).1
    have cc : Chg (fun k => k = lb ∨ sv.ownBlock = some k) X3 w3 X6 w6 := ((Chg.of_since hs4 _).trans (c5.mono fun k _ hk' => .inr hk')).trans (c6.mono fun k _ hk' => .inl hk')
    have hT6 : Ft w0 F w6 X6 (fun k => (F k ∨ made wa3 w3 k) ∨ (X6 k ∧ w3.heap.size ≤ k)) := hT3.chg cc (fun k hk' => by
      rcases hk' with rfl | hk'
      · exact h3.hL _ h3.l.box.1
      · exact h3.hL _ (hsvX _ hk')) fun k hk' => hk'
    have hin6 : ∀ g, sv'.ownBlock = some g → FL g ∨ (X6 g ∧ w3.heap.size ≤ g) := fun g hg => by
      rcases hat5 with e | ⟨g', e, hge⟩
      · exact .inl (hsvX _ (e.symm.trans hg))
      · rw [hg] at e
        have : g = g' := Option.some.inj e
        subst this
        exact .inr ⟨c6.sub _ (ho5.inX hg).1, Nat.le_trans hs4.kp.size hge⟩
    have hne6 : sv'.ownBlock ≠ some lb := ho5.neRow hb5 (by kernel_rfl)
    have hbxlb : bx ≠ lb := hrow.neRow hb4 (by kernel_rfl)
    have hbxsv : ¬ blk sv bx := fun hq => hso4.neRow hrow (by kernel_rfl) hq
    have hL6 := h3.l.setSegs (FL' := fun k => FL k ∨ (X6 k ∧ w3.heap.size ≤ k)) (sv' := sv') (bl' := bl ++ [⟨bx, n, .slice none 0 0, [], 0⟩]) (hT3.fx h3.hL) cc (fun k hk' => hk') (fun k hk' => .inl hk') ⟨.inl h3.l.box.1, hr6.2⟩ ?_ ?_ ?_
    · refine hT6.fin fun wa hk9 => ⟨rfl, _, hT6.grew hk9 fun _ h => h, ?_⟩
      rw [if_pos hz]
      have e : ({ L with segs := (bl ++ [(⟨bx, n, .slice none 0 0, [], 0⟩ : SegL)]).map SegL.er } : LM) = { L with segs := L.segs ++ [⟨n, [], 0⟩] } := by
        rw [List.map_append, ← h3.l.segs]; rfl
      rw [← e]
      refine Lg.mv ⟨_, FD', sv', _, ?_, ?_, ?_, hL6, h3.d.mv (cc.mvA fun k hk' => ⟨hT3.inX k (h3.hD k hk'), fun hg => ?_⟩)⟩ (hk9.mvA hT6.inX)
      · intro k ha hb'
        rcases ha with ha | ha
        · exact h3.dj k ha hb'
        · have := (hT3.fx h3.hD k hb').2
          omega
      · exact fun k hk' => hk'.imp (h3.hL k) id
      · exact fun k hk' => .inl (h3.hD k hk')
      · rcases hg with rfl | hg
        · exact h3.dj _ h3.l.box.1 hk'
        · exact h3.dj _ (hsvX _ hg) hk'
    · rw [List.map_append]
      refine ho5.tight.mv fun k hk' hl => ⟨hin6 k hk', c6.block k (ho5.inX hk').1 fun e => hne6 (by rw [← (show k = lb from e)]; exact hk')⟩
    · intro s hs'
      rcases List.mem_append.1 hs' with hs' | hs'
      · exact .inl hs'
      · simp only [List.mem_singleton] at hs'; subst hs'
        have hb6 : w6.heap[bx]? = w4.heap[bx]? := by
          rw [c6.block bx (c5.sub _ hrow.1) hbxlb, c5.block bx hrow.1 hbxsv]
        exact .inr ⟨⟨.inr ⟨c6.sub _ (c5.sub _ hrow.1), hbx⟩, by rw [hb6]; exact hrow.2⟩, Ow.nil _ _ _ _, fun r hr => by cases hr⟩
    · refine List.pairwise_append.2 ⟨h3.l.ap, List.pairwise_singleton _ _, fun x hx y hy => ?_⟩
      simp only [List.mem_singleton] at hy; subst hy
      refine ⟨fun e => ?_, fun g hg hg' => by cases hg'⟩
      have := (hT3.fx h3.hL _ (h3.l.row x hx).1).2
      have e' : x.b = bx := e
      omega
  · have hz : ¬ ms.2 = 0 := by have : ¬ (ms.2 : Int) = 0 := by assumption
                               omega
    refine hT3.fin fun wa hk9 => ⟨rfl, _, hT3.grew hk9 fun _ h => h, ?_⟩
    rw [if_neg hz]
    exact (h3.mv (hk9.mvA hT3.inX)).lg
theorem LOK.safe {L : LM} (h : LOK L) (z : Int) : LOK { L with safe := z } := ⟨h.ne, h.d1, h.d2, h.seg, h.room⟩
theorem LOK.sync {L : LM} {m : DM} (h : LOK L) : LOK (LD.sync ⟨L, m⟩).1.L := by
  unfold LD.sync
  dsimp only
  split
  · exact h.safe _
  · exact h
theorem LOK.roll {L : LM} {m : DM} {n : Nat} (h : LOK L) (hn : n ≤ 2 ^ 40) : LOK (LD.roll ⟨L, m⟩ n).1.L := by
  unfold LD.roll
  dsimp only
  split
  · refine ⟨by simp, h.d1, h.d2, fun s hs => ?_, h.room⟩
    rcases List.mem_append.1 hs with hs | hs
    · exact h.seg s hs
    · simp only [List.mem_singleton] at hs; subst hs; exact ⟨by simpa using hn, by simp⟩
  · exact h
theorem LD.sync_segs (x : LD) : x.sync.1.L.segs = x.L.segs := by unfold LD.sync; dsimp only; split <;> rfl
theorem LD.sync_dir (x : LD) : x.sync.1.L.dir = x.L.dir := by unfold LD.sync; dsimp only; split <;> rfl
theorem d_wal_Append {w : World} {X F S : XS} {lb db : Nat} {L : LM} {m : DM} {vp : Value} {p : List Nat} (h : Lg w F lb db L m) (hL : LOK L) (hsl : L.segs.length ≤ 2 ^ 30) (hF : FX F X w) (hp : Sl w S 1 vp (p.map U1)) (hS : ∀ k, S k → X k ∧ ¬ F k) :
    Ct Tryz.prog 103 #[ptr lb 0, vp] w X F fun v wa w' => v = .tuple #[I (LD.append ⟨L, m⟩ p).2.1, I (LD.append ⟨L, m⟩ p).2.2] ∧
      ∃ F', (∀ k, F' k → F k ∨ made wa w' k) ∧ Lg w' F' lb db (LD.append ⟨L, m⟩ p).1.L (LD.append ⟨L, m⟩ p).1.m := by
  intro w0 hk
  obtain ⟨FL, FD, sv, bl, h⟩ := (h.mv (hF.mv hk)).lw
  have hT := hF.ft hk
  have hF0 : FX F (old w0) w0 := hF.kp hk
  have hp0 : Sl w0 (out F w0) 1 vp (p.map U1) := hp.mv fun k hk' hl => ⟨⟨Nat.lt_of_lt_of_le hl hk.size, (hS k hk').2⟩, hk.block k (hS k hk').1⟩
  have hpl := hp0.len'
  have ov := hp0.one
  have hnx := hL.next
  generalize hr : LD.append ⟨L, m⟩ p = r
  unfold LD.append at hr
  dsimp only at hr
  apply ok_wal_Log_Append; unfold vc_wal_Log_Append
  refine r_ct0 (d_wal_Next h.l hL (hT.fx h.hL)) (by kernel_rfl) hT.s.has ?_
  rintro _ wa w1 X1 rfl hle hin hs1
  have hT1 := hT.since hs1
  have h1 := h.mv (hs1.mvF hT.inX)
  have hpA : ∀ {w X F'}, Ft w0 F w X F' → Sl w X 1 vp (p.map U1) := fun hT => hp0.mv hT.s.mv
  have hp1 := hpA hT1
  have stay : r.1 = ⟨L, m⟩ → ∀ wa, Kp X1 w1 wa → ∃ F', (∀ k, F' k → F k ∨ made w0 wa k) ∧ Lg wa F' lb db r.1.L r.1.m := fun e wa hk9 => ⟨F, hT1.grew hk9 fun _ h => h, by rw [e]; exact (h1.mv (hk9.mvA hT1.inX)).lg⟩
  repeat' first | with_reducible (first | apply condW_T | apply condW_F) | (with_reducible apply r_gtr <;> intro _) | ((with_reducible apply m_lnS); (· exact qO); (· kernel_rfl))
  · rw [if_pos (by omega)] at hr
    subst hr
    exact hT1.fin fun wa hk9 => ⟨rfl, stay rfl wa hk9⟩
  · rw [if_neg (by omega), if_pos (by omega)] at hr
    subst hr
    exact hT1.fin fun wa hk9 => ⟨rfl, stay rfl wa hk9⟩
  · rw [if_neg (by omega), if_neg (by omega)] at hr
    have hpl2 : p.length ≤ 262144 := by omega
    clear stay
    refine jn_by (fun k => ∀ (w : World) (X F1 FL FD : XS) (sv : Value) (bl : List SegL) (x : LD), LD.room ⟨L, m⟩ = (x, 0) → LOK x.L → x.L.segs.length ≤ 2 ^ 30 + 1 → Ft w0 F w X F1 → LW w F1 lb db x.L x.m FL FD sv bl → k w X) ?_ ?_
    · intro w X F1 FL FD sv bl x hrm hxL hxs hT2 h2
      rw [hrm] at hr
      dsimp only at hr
      rw [if_neg (by simp)] at hr
      obtain ⟨bl', s, rfl, he, hdl⟩ := h2.l.last hxL
      refine r_ct0 (d_wal_last h2.l (hT2.fx h2.hL)) (by kernel_rfl) hT2.s.has ?_
      rintro _ wa3 w3 X3 rfl hle3 hin3 hs3
      have hT3 := hT2.since hs3
      have h3 := h2.mv (hs3.mvF hT2.inX)
      refine r_ct0 (d_frame_Frame (hpA hT3)) (by kernel_rfl) hT3.s.has ?_
      rintro vq wa4 w4 X4 hq hle4 hin4 hs4
      rw [if_neg (by omega)] at hq
      obtain ⟨vb, rfl, hob⟩ := hq
      have hT4 := hT3.since hs4
      have h4 := h3.mv (hs4.mvF hT3.inX)
      have hX4 : ∀ k, FL k → X4 k := fun k hk' => hT4.inX k (h4.hL k hk')
      have hb4 := h4.l.box.mv (Mv.sub hX4)
      have hmem : s ∈ bl' ++ [s] := by simp
      have hbs4 := (h4.l.row s hmem).mv (Mv.sub hX4)
      have hfirst : s.first = x.L.last.first := by rw [← he]; rfl
      have hsz : s.size = x.L.last.size := by rw [← he]; rfl
      have hrs : x.L.last.recs = s.rs.map (·.2) := by rw [← he]; rfl
      have hfb := hxL.first
      have hnx := hxL.next
      have hls := hxL.seg _ (LM.last_mem hxL.ne)
      have hrl : s.rs.length = x.L.last.recs.length := by rw [hrs, List.length_map]
      have hfl := frameB_len p
      have ovb := hob.one
      repeat' first | with_reducible apply r_nil | ((with_reducible apply m_fld1); (· exact qF); (· kernel_rfl); (· rfl); intro _ _ _) | ((with_reducible apply m_ld1); (· exact qF); (· exact qM); (· kernel_rfl); (· rfl)) | ((with_reducible apply m_ext); (· rfl))
      rw [hfirst]
      refine r_ct0 (d_wal_file (by have := hxL.d2; omega) (by omega)) (by kernel_rfl) hT4.s.has ?_
      rintro _ wa5 w5 X5 rfl hle5 hin5 hs5
      have hT5 := hT4.since hs5
      have h5 := h4.mv (hs5.mvF hT4.inX)
      have hz4 := hs4.kp.size
      have hob5 : Sl w5 (made wa4 w4) 1 vb ((frameB p).map U1) := hob.sl.mv fun k hk' hl => ⟨hk', hs5.kp.block k (hin4 k hk')⟩
      refine hT5.call (d_disk_Append h5.d (hT5.fx h5.hD) hob5 (fun k hk' => ⟨hs5.sub k (hin4 k hk'), fun hf => ?_⟩) (by omega)) (by kernel_rfl) h5.hD fun v wa6 w6 X6 hq hle6 hin6 hT6 hc6 => ?_
      · have := (hT3.fx h3.hD k hf).2
        have := hk'.1
        omega
      obtain ⟨rfl, FD', hFD', hD⟩ := hq
      have h6 := h5.disk (hT5.fx fun _ h => h) hle6 hc6 hFD' hD
      have eL : x.lay p = (⟨if (x.m.append x.L.lastName (frameB p)).2 = 0 then x.L.add p else x.L, (x.m.append x.L.lastName (frameB p)).1⟩, (x.m.append x.L.lastName (frameB p)).2) := rfl
      rw [eL] at hr
      dsimp only at hr
      have eN : x.L.lastName = fileN x.L.dir x.L.last.first := rfl
      rw [eN] at hr
      generalize hms : x.m.append (fileN x.L.dir x.L.last.first) (frameB p) = ms at hr h6 ⊢
      have hX6 : ∀ k, FL k → X6 k := fun k hk' => hT6.inX k (h6.hL k hk')
      have hbs6 := (h6.l.row s hmem).mv (Mv.sub hX6)
      have hrc6 := (h6.l.rcs s hmem).mono hX6
      repeat' first | with_reducible (first | apply condW_T | apply condW_F | apply r_nil) | (with_reducible apply r_neq <;> intro _) | ((with_reducible apply m_fld1); (· exact qF); (· kernel_rfl); (· rfl); intro _ _ _) | ((with_reducible apply m_ld1); (· exact qF); (· exact qM); (· kernel_rfl); (· rfl))
      · have hz : ¬ ms.2 = 0 := by have : ¬ (ms.2 : Int) = 0 := by assumption
                                   omega
        rw [if_pos hz, if_neg hz] at hr
        subst hr
        exact hT6.fin fun wa hk9 => ⟨rfl, _, hT6.grew hk9 fun _ h => h, (h6.mv (hk9.mvA hT6.inX)).lg⟩
      · have hz : ms.2 = 0 := by have : (ms.2 : Int) = 0 := by assumption
                                 omega
        rw [if_neg (by simpa using hz), if_pos hz] at hr
        subst hr
        refine m_cpy hT6.s.has (by kernel_rfl) (hpA hT6) (by intro r hr u hu; obtain ⟨x, _, rfl⟩ := List.mem_map.1 hr; simp only [U1, List.mem_singleton] at hu; subst hu; rfl) (by simp; omega) (by simp; omega) fun pv w7 X7 hs7 hop => ?_
        have hrc7 := hrc6.mv hs7.mv
        have hbs7 := hbs6.since hs7
        refine m_apO1 (bytes := 24) (row := [pv]) hrc7 hs7.has (by kernel_rfl) (by have := one_cells hop.one; rw [this]) rfl (by simp [hop.one]) (by simp; omega) (by simp; omega) fun rv' w8 X8 c8 ho8 hat8 => ?_
        have hne8 : ∀ q, blk s.rv q → q ≠ s.b := fun q hq e => hrc7.neRow hbs7 (by kernel_rfl) (by rw [← e]; exact hq)
        have hbs8 : RowIs w8 X8 s.b [I s.first, s.rv, I s.size] 163 := ⟨c8.sub _ hbs7.1, by rw [c8.block _ hbs7.1 fun hq => hne8 _ hq rfl]; exact hbs7.2⟩
        repeat' first | with_reducible apply r_nil | ((with_reducible apply m_fld1); (· exact qF); (· kernel_rfl); (· rfl); intro _ _ _)
        refine m_stC (o := 1) hbs8 (by omega) (by kernel_rfl) (by simp) ho8.one c8.has fun w9 X9 c9 hbs9 => ?_
        replace hbs9 : RowIs w9 X9 s.b [I s.first, rv', I s.size] 163 := hbs9
        repeat' first | with_reducible apply r_nil | ((with_reducible apply m_fld1); (· exact qF); (· kernel_rfl); (· rfl); intro _ _ _) | ((with_reducible apply m_ld1); (· exact qF); (· exact qM); (· kernel_rfl); (· rfl)) | ((with_reducible apply m_lnS); (· exact qO); (· kernel_rfl)) | ((with_reducible apply r_add); (· omega); (· omega))
        refine m_stC (o := 2) hbs9 (by omega) (by kernel_rfl) (by simp) rfl c9.has fun w10 X10 c10 hbs10 => ?_
        have hzz : (s.size : Int) + ((frameB p).length : Int) = ((s.size + (frameB p).length : Nat) : Int) := by omega
        replace hbs10 : RowIs w10 X10 s.b [I s.first, rv', I ((s.size + (frameB p).length : Nat) : Int)] 163 := by rw [← hzz]; exact hbs10
        have cc : Chg (fun k => k = s.b ∨ s.rv.ownBlock = some k) X6 w6 X10 w10 := (((Chg.of_since hs7 _).trans (c8.mono fun k _ hk' => .inr hk')).trans (c9.mono fun k _ hk' => .inl hk')).trans (c10.mono fun k _ hk' => .inl hk')
        have hrvX : ∀ q, blk s.rv q → FL q := fun q hq => ((h6.l.rcs s hmem).inX hq).1
        have hT10 := hT6.chg (F' := fun k => (F1 k ∨ made wa6 w6 k) ∨ (X10 k ∧ w6.heap.size ≤ k)) cc (fun k hk' => by
          rcases hk' with rfl | hk'
          · exact h6.hL _ (h6.l.row s hmem).1
          · exact h6.hL _ (hrvX _ hk')) fun k hk' => hk'
        have hin10 : ∀ g, rv'.ownBlock = some g → FL g ∨ (X10 g ∧ w6.heap.size ≤ g) := fun g hg => by
          rcases hat8 with e | ⟨g', e, hge⟩
          · exact .inl (hrvX _ (e.symm.trans hg))
          · rw [hg] at e
            have : g = g' := Option.some.inj e
            subst this
            exact .inr ⟨c10.sub _ (c9.sub _ (ho8.inX hg).1), Nat.le_trans hs7.kp.size hge⟩
        have hne9 : ∀ q, blk rv' q → q ≠ s.b := fun q hq e => ho8.neRow hbs8 (by kernel_rfl) (by rw [← e]; exact hq)
        have hpb : ∀ q, blk pv q → X7 q ∧ w6.heap.size ≤ q ∧ w10.heap[q]? = w7.heap[q]? := fun q hq => by
          have h1 := (hop.inX hq).1
          have hns : q ≠ s.b := fun e => hop.neRow hbs7 (by kernel_rfl) (by rw [← e]; exact hq)
          have hnr : ¬ blk s.rv q := fun hq2 => by
            obtain ⟨c1, e1⟩ := hop.tag hq
            obtain ⟨c2, e2⟩ := hrc7.tag hq2
            rw [e1] at e2; simp at e2
          exact ⟨h1.1, h1.2, by rw [c10.block q (c9.sub _ (c8.sub _ h1.1)) hns, c9.block q (c8.sub _ h1.1) hns, c8.block q h1.1 hnr]⟩
        have hL10 := h6.l.updLast (FL' := fun k => FL k ∨ (X10 k ∧ w6.heap.size ≤ k)) (rv' := rv') (pv := pv) (p := p) (z := s.size + (frameB p).length) (hT6.fx h6.hL) cc (fun k hk' => hk') (fun k hk' => .inl hk') ⟨.inl (h6.l.row s hmem).1, hbs10.2⟩ ?_ ?_ ?_
        · refine hT10.fin fun wa hk9 => ⟨rfl, _, hT10.grew hk9 fun _ h => h, ?_⟩
          have e : ({ x.L with segs := (bl' ++ [s.more rv' pv p (s.size + (frameB p).length)]).map SegL.er } : LM) = x.L.add p := by
            unfold LM.add
            rw [hdl, List.map_append, ← he]
            simp [SegL.er]
          rw [← e]
          refine Lg.mv ⟨_, FD', sv, _, ?_, ?_, ?_, hL10, h6.d.mv (cc.mvA fun k hk' => ⟨hT6.inX k (h6.hD k hk'), fun hg => ?_⟩)⟩ (hk9.mvA hT10.inX)
          · intro k ha hb'
            rcases ha with ha | ha
            · exact h6.dj k ha hb'
            · have := (hT6.fx h6.hD k hb').2
              omega
          · exact fun k hk' => hk'.imp (h6.hL k) id
          · exact fun k hk' => .inl (h6.hD k hk')
          · rcases hg with rfl | hg
            · exact h6.dj _ (h6.l.row s hmem).1 hk'
            · exact h6.dj _ (hrvX _ hg) hk'
        · rw [List.map_append]
          exact ho8.tight.mv fun k hk' hl => ⟨hin10 k hk', by rw [c10.block k (c9.sub _ (ho8.inX hk').1) (hne9 k hk'), c9.block k (ho8.inX hk').1 (hne9 k hk')]⟩
        · exact hop.tight.mv fun k hk' hl => ⟨.inr ⟨c10.sub _ (c9.sub _ (c8.sub _ (hpb k hk').1)), (hpb k hk').2.1⟩, (hpb k hk').2.2⟩
        · rcases hat8 with e | ⟨g, e, hge⟩
          · exact .inl e
          · exact .inr ⟨g, e, Nat.le_trans hs7.kp.size hge⟩
    · intro K hK
      obtain ⟨bl', s, rfl, he, hdl⟩ := h1.l.last hL
      have hX1 : ∀ k, FL k → X1 k := fun k hk' => hT1.inX k (h1.hL k hk')
      have hb1 := h1.l.box.mv (Mv.sub hX1)
      have hmem : s ∈ bl' ++ [s] := by simp
      have hbs1 := (h1.l.row s hmem).mv (Mv.sub hX1)
      have hsz : s.size = L.last.size := by rw [← he]; rfl
      have hls := hL.seg _ (LM.last_mem hL.ne)
      have hrm := hL.room
      have eR : LD.room ⟨L, m⟩ = if L.room ≤ L.last.size then (if (LD.sync ⟨L, m⟩).2 ≠ 0 then LD.sync ⟨L, m⟩ else (LD.sync ⟨L, m⟩).1.roll L.next) else (⟨L, m⟩, 0) := rfl
      repeat' first | with_reducible apply r_nil | ((with_reducible apply m_fld1); (· exact qF); (· kernel_rfl); (· rfl); intro _ _ _) | ((with_reducible apply m_ld1); (· exact qF); (· exact qM); (· kernel_rfl); (· rfl))
      refine r_ct0 (d_wal_last h1.l (hT1.fx h1.hL)) (by kernel_rfl) hT1.s.has ?_
      rintro _ wa2 w2 X2 rfl hle2 hin2 hs2
      have hT2 := hT1.since hs2
      have h2 := h1.mv (hs2.mvF hT1.inX)
      have hbs2 := hbs1.since hs2
      repeat' first | with_reducible (first | apply condW_T | apply condW_F | apply r_nil) | (with_reducible apply r_geq <;> intro _) | ((with_reducible apply m_fld1); (· exact qF); (· kernel_rfl); (· rfl); intro _ _ _) | ((with_reducible apply m_ld1); (· exact qF); (· exact qM); (· kernel_rfl); (· rfl))
      · have hge : L.room ≤ L.last.size := by omega
        rw [if_pos hge] at eR
        refine hT2.call (d_wal_Sync h2.lg hL (hT2.fx fun _ h => h)) (by kernel_rfl) (fun _ h => h) fun v wa3 w3 X3 hq hle3 hin3 hT3 hc3 => ?_
        obtain ⟨rfl, F3, hF3, h3⟩ := hq
        have hL3 : LOK (LD.sync ⟨L, m⟩).1.L := hL.sync
        have hsg3 := LD.sync_segs ⟨L, m⟩
        have hdr3 := LD.sync_dir ⟨L, m⟩
        generalize hsy : LD.sync ⟨L, m⟩ = y at eR h3 hL3 hsg3 hdr3 ⊢
        have hT3' := hT3.less hF3
        repeat' first | with_reducible (first | apply condW_T | apply condW_F) | (with_reducible apply r_neq <;> intro _)
        · have hz : y.2 ≠ 0 := by have : ¬ (y.2 : Int) = 0 := by assumption
                                  omega
          rw [if_pos hz] at eR
          rw [eR, if_pos hz] at hr
          subst hr
          exact hT3'.fin fun wa hk9 => ⟨rfl, F3, hT3'.grew hk9 fun _ h => h, h3.mv (hk9.mvA hT3'.inX)⟩
        · have hz : ¬ y.2 ≠ 0 := by have : (y.2 : Int) = 0 := by assumption
                                    omega
          rw [if_neg hz] at eR
          have hy : y.1 = ⟨y.1.L, y.1.m⟩ := rfl
          refine hT3'.call (d_wal_roll (n := L.next) h3 (by rw [hdr3]; exact hL.d2) hnx (by rw [hsg3]; exact hsl) (hT3'.fx fun _ h => h)) (by kernel_rfl) (fun _ h => h) fun v wa4 w4 X4 hq hle4 hin4 hT4 hc4 => ?_
          obtain ⟨rfl, F4, hF4, h4⟩ := hq
          have hL4 : (LD.roll ⟨y.1.L, y.1.m⟩ L.next).2 = 0 → LOK (LD.roll ⟨y.1.L, y.1.m⟩ L.next).1.L := fun _ => hL3.roll hnx
          have hl4 : (LD.roll ⟨y.1.L, y.1.m⟩ L.next).1.L.segs.length ≤ 2 ^ 30 + 1 := by
            unfold LD.roll
            dsimp only
            split
            · simp only [List.length_append, List.length_singleton, hsg3]; show L.segs.length + 1 ≤ _; omega
            · rw [hsg3]; show L.segs.length ≤ _; omega
          rw [hy] at eR
          generalize hro : LD.roll ⟨y.1.L, y.1.m⟩ L.next = q at eR h4 hL4 hl4 ⊢
          have hT4' := hT4.less hF4
          repeat' first | with_reducible (first | apply condW_T | apply condW_F) | (with_reducible apply r_neq <;> intro _)
          · have hz : q.2 ≠ 0 := by have : ¬ (q.2 : Int) = 0 := by assumption
                                    omega
            rw [eR, if_pos hz] at hr
            subst hr
            exact hT4'.fin fun wa hk9 => ⟨rfl, F4, hT4'.grew hk9 fun _ h => h, h4.mv (hk9.mvA hT4'.inX)⟩
          · have hz : q.2 = 0 := by have : (q.2 : Int) = 0 := by assumption
                                    omega
            obtain ⟨FL4, FD4, sv4, bl4, h4⟩ := h4.lw
            exact hK _ _ _ _ _ _ _ q.1 (by rw [eR, ← hz]) (hL4 hz) hl4 hT4' h4
      · have hge : ¬ L.room ≤ L.last.size := by omega
        rw [if_neg hge] at eR
        exact hK _ _ _ _ _ _ _ ⟨L, m⟩ eR hL (by show L.segs.length ≤ _; omega) hT2 h2
end Go.Proofs.YtpdkoaklobnegaaGreat
namespace Go.Proofs.YtpdkoaklobnegaaGreat
open Go.Eng
set_option maxRecDepth 100000
set_option maxHeartbeats 1000000
set_option linter.unusedVariables false
set_option linter.unusedSimpArgs false
attribute [local irreducible] un jn chk fld ld1 ldA st1 ixS lnS lnT bld cvI cvF ixA bsS apS rdV rdW grdW eW eV eU eC eF gE condW fin pickN nilN binS vS lp0 lp1 lp2 lp3 lp4 lp5 lp6 lp7 nx0 nx1 nx2 nx3 nx4 nx5 nx6 nx7
theorem LOK.tail {L : LM} {s t : SegM} {r : List SegM} (h : LOK L) (hs : L.segs = s :: t :: r) : LOK { L with segs := t :: r } :=
  ⟨by simp, h.d1, h.d2, fun x hx => h.seg x (by rw [hs]; exact List.mem_cons_of_mem _ hx), h.room⟩
theorem d_wal_Trim {w : World} {X F : XS} {lb db below K : Nat} {L : LM} {m : DM} (h : Lg w F lb db L m) (hL : LOK L) (hK : L.segs.length ≤ K) (hsl : L.segs.length ≤ 2 ^ 40) (hF : FX F X w) :
    Ct Tryz.prog 58 #[ptr lb 0, I below] w X F fun v wa w' => v = I (LD.trim ⟨L, m⟩ below K).2 ∧ ∃ F', (∀ k, F' k → F k ∨ made wa w' k) ∧ Lg w' F' lb db (LD.trim ⟨L, m⟩ below K).1.L (LD.trim ⟨L, m⟩ below K).1.m := by
  intro w0 hk
  replace h := h.mv (hF.mv hk)
  have hT := hF.ft hk
  have hF0 : FX F (old w0) w0 := hF.kp hk
  generalize hr : LD.trim ⟨L, m⟩ below K = r
  apply ok_wal_Log_Trim; unfold vc_wal_Log_Trim
  refine lp0_of (fun n w X => ∃ (k : Nat) (x : LD) (F1 : XS), n = x.L.segs.length ∧ x.L.segs.length ≤ k ∧ x.L.segs.length ≤ 2 ^ 40 ∧ LD.trim x below k = r ∧ LOK x.L ∧ Ft w0 F w X F1 ∧ Lg w F1 lb db x.L x.m) L.segs.length ⟨K, ⟨L, m⟩, F, rfl, hK, hsl, hr, hL, hT, h⟩ ?_
  clear hT h hr hsl hK hL
  rintro n w X ⟨k, x, F1, rfl, hk, hsl, hr, hL, hT, h⟩
  obtain ⟨FL, FD, sv, bl, h⟩ := h.lw
  have hX : ∀ k, FL k → X k := fun k hk' => hT.inX k (h.hL k hk')
  have hb := h.l.box.mv (Mv.sub hX)
  have hso := h.l.so.sl.mono hX
  have hbl : bl.length = x.L.segs.length := by rw [h.l.segs, List.length_map]
  have hsg := h.l.segs
  have done : r = (x, 0) → ∀ wa, Kp X w wa → I 0 = I r.2 ∧ ∃ F', (∀ k, F' k → F k ∨ made w0 wa k) ∧ Lg wa F' lb db r.1.L r.1.m := fun e wa hk9 => ⟨by rw [e]; rfl, F1, hT.grew hk9 fun _ h => h, by rw [e]; exact (h.mv (hk9.mvA hT.inX)).lg⟩
  match bl, hbl, hsg with
  | [], hbl, hsg => exact absurd hsg hL.ne
  | [s], hbl, hsg =>
    have hsg' : x.L.segs = [s.er] := hsg
    have hr1 : r = (x, 0) := by
      rw [← hr]
      cases k with
      | zero => rfl
      | succ k => unfold LD.trim; rw [hsg']
    have hl1 : ([s] : List SegL).length = 1 := rfl
    repeat' first | ((with_reducible refine r_gtrF ?_ ?_); (· omega)) | with_reducible (first | apply condW_F | apply un_selFT | apply grdW_offT | apply rdW_pickF | apply r_nil) | ((with_reducible apply m_fld1); (· exact qF); (· kernel_rfl); (· rfl); intro _ _ _) | ((with_reducible apply m_ld1); (· exact qF); (· exact qM); (· kernel_rfl); (· rfl)) | ((with_reducible apply m_lnS); (· exact qO); (· kernel_rfl))
    exact hT.fin fun wa hk9 => done hr1 wa hk9
  | s :: t :: bl, hbl, hsg =>
    have hsg' : x.L.segs = s.er :: t.er :: bl.map SegL.er := hsg
    have hlen2 : (s :: t :: bl).length = bl.length + 2 := rfl
    have hrs := (h.l.row s (by simp)).mv (Mv.sub hX)
    have hrt := (h.l.row t (by simp)).mv (Mv.sub hX)
    have hs1 := hL.seg s.er (by rw [hsg']; simp)
    have hs1' : s.first + s.er.recs.length ≤ 2 ^ 40 := hs1.1
    obtain ⟨k, rfl⟩ : ∃ k', k = k' + 1 := ⟨k - 1, by omega⟩
    have eT : LD.trim x below (k + 1) = if t.first ≤ below then (if (x.m.remove (fileN x.L.dir s.first)).2 ≠ 0 then (⟨x.L, (x.m.remove (fileN x.L.dir s.first)).1⟩, (x.m.remove (fileN x.L.dir s.first)).2) else LD.trim ⟨{ x.L with segs := t.er :: bl.map SegL.er }, (x.m.remove (fileN x.L.dir s.first)).1⟩ below k) else (x, 0) := by
      rw [LD.trim, hsg']; rfl
    have h0 : (s :: t :: bl)[0]? = some s := rfl
    have h1 : (s :: t :: bl)[1]? = some t := rfl
    repeat' first | ((with_reducible refine r_gtrT ?_ ?_); (· omega)) | with_reducible (first | apply condW_T | apply condW_F | apply un_selT | apply grdV_onT | apply grdW_onT | apply rdW_pickT | apply r_nil) | (with_reducible apply r_leq <;> intro _) | ((with_reducible apply m_fld1); (· exact qF); (· kernel_rfl); (· rfl); intro _ _ _) | ((with_reducible apply m_ld1); (· exact qF); (· exact qM); (· kernel_rfl); (· rfl)) | ((with_reducible apply m_lnS); (· exact qO); (· kernel_rfl)) | ((with_reducible apply m_ixS); (· exact qO); (try (case hz => rfl)); (case hr => exact qR); (try (case hz => omega)); (case ht => kernel_rfl); (case hs => kernel_rfl); intro _ _ _)
    · have hle : t.first ≤ below := by omega
      rw [if_pos hle] at eT
      have hs := Since.refl' hT.s.has
      refine r_ct0 (d_wal_file (by have := hL.d2; omega) (by omega)) (by kernel_rfl) hT.s.has ?_
      rintro _ wa2 w2 X2 rfl hle2 hin2 hs2
      have hT2 := hT.since hs2
      have h2 := h.mv (hs2.mvF hT.inX)
      refine hT2.call (d_disk_Remove h2.d (hT2.fx h2.hD)) (by kernel_rfl) h2.hD fun v wa3 w3 X3 hq hle3 hin3 hT3 hc3 => ?_
      obtain ⟨rfl, FD', hFD', hD⟩ := hq
      have h3 := h2.disk (hT2.fx fun _ h => h) hle3 hc3 hFD' hD
      generalize hms : x.m.remove (fileN x.L.dir s.first) = ms at h3 eT ⊢
      have hX3 : ∀ k, FL k → X3 k := fun k hk' => hT3.inX k (h3.hL k hk')
      have hb3 := h3.l.box.mv (Mv.sub hX3)
      clear hs
      repeat' first | with_reducible (first | apply condW_T | apply condW_F | apply r_nil) | (with_reducible apply r_neq <;> intro _) | ((with_reducible apply m_fld1); (· exact qF); (· kernel_rfl); (· rfl); intro _ _ _) | ((with_reducible apply m_ld1); (· exact qF); (· exact qM); (· kernel_rfl); (· rfl))
      · have hz : ms.2 ≠ 0 := by have : ¬ (ms.2 : Int) = 0 := by assumption
                                 omega
        rw [if_pos hz, hr] at eT
        exact hT3.fin fun wa hk9 => ⟨by rw [eT], _, hT3.grew hk9 fun _ h => h, by rw [eT]; exact (h3.mv (hk9.mvA hT3.inX)).lg⟩
      · have hz : ¬ ms.2 ≠ 0 := by have : (ms.2 : Int) = 0 := by assumption
                                   omega
        rw [if_neg hz, hr] at eT
        have hso3 := h3.l.so.mono hX3
        refine m_slLoO (k := 1) (i := 1) hso3 rfl (by simp) (by kernel_rfl) (by kernel_rfl) fun sv' hsv' hown => ?_
        repeat' first | with_reducible apply r_nil | ((with_reducible apply m_fld1); (· exact qF); (· kernel_rfl); (· rfl); intro _ _ _)
        refine m_stC (o := 3) hb3 (by omega) (by kernel_rfl) (by simp) hsv'.one hT3.s.has fun w4 X4 c4 hr4 => ?_
        have hT4 := hT3.chg (F' := fun k => F1 k ∨ made wa3 w3 k) c4 (fun k hk' => by subst hk'; exact h3.hL _ h3.l.box.1) fun k hk' => .inl hk'
        have hne : sv'.ownBlock ≠ some lb := hsv'.neRow hb3 (by kernel_rfl)
        have hL4 := h3.l.setSegs (FL' := FL) (sv' := sv') (bl' := t :: bl) (hT3.fx h3.hL) (c4.mono fun k _ hk' => .inl hk') (fun k hk' => hk') (fun k hk' => hk') ⟨h3.l.box.1, hr4.2⟩ ?_ (fun y hy => .inl (List.mem_cons_of_mem _ hy)) (List.pairwise_cons.1 h3.l.ap).2
        · refine nx0_of (bl.length + 1) (by omega) ⟨k, ⟨{ x.L with segs := t.er :: bl.map SegL.er }, ms.1⟩, _, by simp, ?_, ?_, eT.symm, hL.tail hsg', hT4, FL, FD', sv', t :: bl, h3.dj, h3.hL, h3.hD, hL4, h3.d.mv (c4.mvA fun k hk' => ⟨hT3.inX k (h3.hD k hk'), fun e => h3.dj k (by rw [e]; exact h3.l.box.1) hk'⟩)⟩
          · show (t.er :: bl.map SegL.er).length ≤ k
            simp; omega
          · show (t.er :: bl.map SegL.er).length ≤ _
            simp; omega
        · refine hsv'.tight.mv fun k hk' hl => ⟨(h3.l.so.inX (hown.symm.trans hk')).1, c4.block k (hsv'.inX hk').1 fun e => hne (by rw [← (show k = lb from e)]; exact hk')⟩
    · have hle : ¬ t.first ≤ below := by omega
      rw [if_neg hle, hr] at eT
      exact hT.fin fun wa hk9 => done eT wa hk9
end Go.Proofs.YtpdkoaklobnegaaGreat
