/-
  Part 4 of the proof: what the last text leans on.
-/
import Derived.Test.YtpdkoaklobnegaaGreatH3
namespace Go.Proofs.YtpdkoaklobnegaaGreat
open Go.Eng
set_option maxRecDepth 100000
set_option maxHeartbeats 1000000
set_option linter.unusedVariables false
set_option linter.unusedSimpArgs false
attribute [local irreducible] un jn chk fld ld1 ldA st1 ixS lnS lnT bld cvI cvF ixA bsS apS rdV rdW grdW eW eV eU eC eF gE condW fin pickN nilN binS vS lp0 lp1 lp2 lp3 lp4 lp5 lp6 lp7 nx0 nx1 nx2 nx3 nx4 nx5 nx6 nx7
theorem Own.tag {w : World} {X : XS} {lo e k : Nat} {v : Value} {rows : List (List Value)} (h : Own w X lo e k v rows) {g : Nat} (hg : v.ownBlock = some g) : ∃ cs : List Value, w.heap[g]? = some (.cells cs.toArray e (0, 0)) := by
  rcases h.row with ⟨rfl, _⟩ | ⟨b, cap, cs, rfl, _, hr, _⟩
  · cases hg
  · simp only [Value.ownBlock, Option.some.injEq] at hg
    subst hg; exact ⟨cs, hr.2⟩
theorem Own.neRow {w : World} {X Y : XS} {lo e e' k g : Nat} {v : Value} {rows : List (List Value)} {cs : List Value} (h : Own w X lo e k v rows) (hr : RowIs w Y g cs e') (he : decide (e ≠ e') = true) : v.ownBlock ≠ some g := fun hg => by
  obtain ⟨c, h1⟩ := Own.tag h hg
  rw [hr.2] at h1
  simp only [Option.some.injEq, Obj.cells.injEq] at h1
  exact of_decide_eq_true he h1.2.1.symm
theorem wrap64 (n : Int) : IntKind.u64.wrap n = n % 18446744073709551616 := by
  simp only [IntKind.wrap, IntKind.bits, IntKind.signed]
  simp
theorem wrap8 (n : Int) : IntKind.u8.wrap n = n % 256 := by
  simp only [IntKind.wrap, IntKind.bits, IntKind.signed]
  simp
section
variable {P : Program} {X : XS} {w : World} {N : Value → Prop} {t : TypeId}
theorem r_toU8 {src dst : TypeId} {k : IntKind} {u : Nat} (hs : (P.underlying src).isSome = true) (hd : P.underlying dst = some (.int .u8)) (h : N (.int .u8 ((u % 256 : Nat) : Int))) : rdV P X w (cvI .u8 src dst (.int k (u : Int))) N :=
  r_cvI hs hd (by rw [wrap8]; exact h)
theorem wrap8n (u : Nat) : IntKind.u8.wrap (u : Int) = ((u % 256 : Nat) : Int) := by rw [wrap8]; omega
theorem r_shl1 {u : Nat} (h : N (.int .u64 ((u * 2 % 18446744073709551616 : Nat) : Int))) : rdV P X w (binOp .shl t (.int .u64 (u : Int)) (.int .u64 1)) N :=
  rdV_shl (by omega) (by
    rw [wrap64]
    have e : ((u : Int) * 2 ^ min (1 : Int).toNat IntKind.u64.bits) % 18446744073709551616 = ((u * 2 % 18446744073709551616 : Nat) : Int) := by
      show ((u : Int) * 2 ^ 1) % 18446744073709551616 = _
      omega
    rw [e]; exact h)
theorem r_shr7 {u : Nat} (h : N (.int .u64 ((u / 128 : Nat) : Int))) : rdV P X w (binOp .shr t (.int .u64 (u : Int)) (.int .u64 7)) N :=
  rdV_shr (by omega) (by
    have e : ((u : Int)).fdiv (2 ^ min (7 : Int).toNat IntKind.u64.bits) = ((u / 128 : Nat) : Int) := by
      show ((u : Int)).fdiv 128 = _
      rw [Int.fdiv_eq_ediv_of_nonneg _ (by decide)]; omega
    rw [e]; exact h)
theorem r_shr8 {u : Nat} (h : N (.int .u64 ((u / 256 : Nat) : Int))) : rdV P X w (binOp .shr t (.int .u64 (u : Int)) (.int .u64 8)) N :=
  rdV_shr (by omega) (by
    have e : ((u : Int)).fdiv (2 ^ min (8 : Int).toNat IntKind.u64.bits) = ((u / 256 : Nat) : Int) := by
      show ((u : Int)).fdiv 256 = _
      rw [Int.fdiv_eq_ediv_of_nonneg _ (by decide)]; omega
    rw [e]; exact h)
theorem r_xorU {u : Nat} (hu : u < 18446744073709551616) (h : N (.int .u64 ((18446744073709551615 - u : Nat) : Int))) : rdV P X w (Op.unary .xor (.int .u64 (u : Int))) N := by
  refine rdV_pure (v := .int .u64 ((18446744073709551615 - u : Nat) : Int)) (fun wa => ?_) h
  have key : (BitVec.ofInt 64 18446744073709551615 ^^^ BitVec.ofInt 64 (u : Int)).toNat = 18446744073709551615 - u := by
    have h1 : BitVec.ofInt 64 18446744073709551615 = BitVec.allOnes 64 := by decide
    have h2 : (BitVec.ofInt 64 (u : Int)) = BitVec.ofNat 64 u := by simp
    rw [h1, h2, BitVec.allOnes_xor, BitVec.toNat_not, BitVec.toNat_ofNat, Nat.mod_eq_of_lt (by omega)]
  have e : IntKind.u64.wrap (BitVec.ofInt IntKind.u64.bits IntKind.u64.max ^^^ BitVec.ofInt IntKind.u64.bits (u : Int)).toNat = ((18446744073709551615 - u : Nat) : Int) := by
    rw [wrap64]
    show ((BitVec.ofInt 64 18446744073709551615 ^^^ BitVec.ofInt 64 (u : Int)).toNat : Int) % 18446744073709551616 = _
    rw [key]; omega
  have hk : (Op.unary .xor (.int .u64 (u : Int))).run P wa = .ok (.int .u64 (IntKind.u64.wrap (BitVec.ofInt IntKind.u64.bits IntKind.u64.max ^^^ BitVec.ofInt IntKind.u64.bits (u : Int)).toNat)) wa := by
    simp [Op.unary, Op.intBits, IntKind.signed]
  rw [hk, e]
theorem rdV_or {k : IntKind} {a b : Int} (h : N (.int k (k.wrap (BitVec.ofInt k.bits a ||| BitVec.ofInt k.bits b).toNat))) : rdV P X w (binOp .or t (.int k a) (.int k b)) N :=
  rdV_pure (fun wa => by simp [binOp, Op.intBits]) h
theorem or128 : ∀ b : Nat, b < 256 → (BitVec.ofInt 8 (b : Int) ||| BitVec.ofInt 8 128).toNat = b % 128 + 128 := by decide +kernel
theorem r_or128 {b : Nat} (hb : b < 256) (h : N (.int .u8 ((b % 128 + 128 : Nat) : Int))) : rdV P X w (binOp .or t (.int .u8 (b : Int)) (.int .u8 128)) N :=
  rdV_or (by
    have e : IntKind.u8.wrap (BitVec.ofInt IntKind.u8.bits (b : Int) ||| BitVec.ofInt IntKind.u8.bits 128).toNat = ((b % 128 + 128 : Nat) : Int) := by
      rw [wrap8]
      have := or128 b hb
      show ((BitVec.ofInt 8 (b : Int) ||| BitVec.ofInt 8 128).toNat : Int) % 256 = _
      rw [this]; omega
    rw [e]; exact h)
theorem r_shlW {n : Int} (h : N (.int .u64 (((n % 18446744073709551616).toNat * 2 % 18446744073709551616 : Nat) : Int))) : rdV P X w (binOp .shl t (.int .u64 (IntKind.u64.wrap n)) (.int .u64 1)) N := by
  have e : IntKind.u64.wrap n = ((n % 18446744073709551616).toNat : Int) := by rw [wrap64]; omega
  rw [e]; exact r_shl1 h
theorem r_orW {u : Nat} (h : N (.int .u8 ((u % 128 + 128 : Nat) : Int))) : rdV P X w (binOp .or t (.int .u8 (IntKind.u8.wrap (u : Int))) (.int .u8 128)) N := by
  rw [wrap8n]
  exact r_or128 (by omega) (by rw [show u % 256 % 128 = u % 128 by omega]; exact h)
end
structure Wr (w : World) (X : XS) (lo wb : Nat) (vb : Value) (bs : List Nat) : Prop where
  box : RowIs w X wb [vb] 308
  ow : Own w X lo 5 1 vb (bs.map U1)
def fpW (wb : Nat) (vb : Value) : XS := fun k => k = wb ∨ vb.ownBlock = some k
theorem Wr.mv {w w' : World} {X Y : XS} {lo wb : Nat} {vb : Value} {bs : List Nat} (h : Wr w X lo wb vb bs) (m : Mv X w Y w') : Wr w' Y lo wb vb bs := ⟨h.box.mv m, h.ow.mv m⟩
theorem Wr.ne {w : World} {X : XS} {lo wb : Nat} {vb : Value} {bs : List Nat} (h : Wr w X lo wb vb bs) : vb.ownBlock ≠ some wb := Own.neRow h.ow h.box (by kernel_rfl)
def Puts (f : FuncId) (args : Array Value) (w : World) (X : XS) (lo wb : Nat) (vb : Value) (bs ds : List Nat) : Prop :=
  Ct Tryz.prog f args w X (fpW wb vb) fun v wa w' => v = .tuple #[] ∧ ∃ vb', Wr w' (fun k => fpW wb vb k ∨ made wa w' k) lo wb vb' (bs ++ ds)
structure WS (w0 : World) (vb0 : Value) (w : World) (X : XS) (lo wb : Nat) (vb : Value) (bs : List Nat) : Prop where
  s : Since (out (fpW wb vb0) w0) w0 X w
  r : Wr w X lo wb vb bs
  v : ∀ g, vb.ownBlock = some g → vb0.ownBlock = some g ∨ w0.heap.size ≤ g
section
variable {w0 w : World} {X : XS} {lo wb : Nat} {vb0 vb : Value} {bs ds : List Nat} {R : Ending → World → Prop} {N : Value → World → XS → Prop}
theorem WS.init (h : Wr w0 (old w0) lo wb vb0 bs) : WS w0 vb0 w0 (old w0) lo wb vb0 bs := ⟨Since.out _ _, h, fun g hg => .inl hg⟩
theorem WS.since {X' : XS} {w' : World} (h : WS w0 vb0 w X lo wb vb bs) (hs : Since X w X' w') : WS w0 vb0 w' X' lo wb vb bs := ⟨h.s.trans hs, h.r.mv hs.mv, h.v⟩
theorem WS.fin (h : WS w0 vb0 w X lo wb vb (bs ++ ds)) : fin (Ret (fpW wb vb0) w0 fun v w' => (fun v wa w' => v = .tuple #[] ∧ ∃ vb', Wr w' (fun k => fpW wb vb0 k ∨ made wa w' k) lo wb vb' (bs ++ ds)) v w0 w') X w (.tuple #[]) := by
  refine fin_ret h.s fun wa hk => ⟨rfl, vb, ⟨.inl (.inl rfl), (h.r.box.kp hk).2⟩, (h.r.ow.kp hk).1, (h.r.ow.kp hk).2.1, fun g hg => ?_⟩
  rcases h.v g hg with h1 | h1
  · exact .inl (.inr h1)
  · exact .inr ⟨h1, ((h.r.ow.kp hk).ge hg).2⟩
theorem WS.out (h : WS w0 vb0 w X lo wb vb bs) {k : Nat} (hk : fpW wb vb k) (h0 : out (fpW wb vb0) w0 k) : False := by
  rcases hk with hk | hk
  · exact h0.2 (.inl hk)
  · rcases h.v k hk with h1 | h1
    · exact h0.2 (.inr h1)
    · have := h0.1; omega
theorem WS.puts {f : FuncId} {args : Array Value} (hS : WS w0 vb0 w X lo wb vb bs) (hp : Puts f args w X lo wb vb bs ds) (hf : enters Tryz.prog f = true)
    (k : ∀ vb' w' X', WS w0 vb0 w' X' lo wb vb' (bs ++ ds) → Chg (fpW wb vb) X w X' w' → N (.tuple #[]) w' X') : eC Tryz.prog R X w true f args N := by
  refine r_ct hp hf hS.s.has (fun q hq => ?_) fun v wa w' X' hq hle hin hkp hc => ?_
  · rcases hq with rfl | hq
    · exact hS.r.box.1
    · exact hS.r.ow.2.2 q hq
  · obtain ⟨rfl, vb', hW⟩ := hq
    refine k vb' w' X' ⟨hS.s.chg hc fun q h0 hq => hS.out hq h0, ⟨⟨hc.sub _ hS.r.box.1, hW.box.2⟩, hW.ow.1, hW.ow.2.1, fun g hg => ?_⟩, fun g hg => ?_⟩ hc
    · rcases hW.ow.2.2 g hg with h1 | h1
      · rcases h1 with rfl | h1
        · exact hc.sub _ hS.r.box.1
        · exact hc.sub g (hS.r.ow.2.2 g h1)
      · exact hin g h1
    · rcases hW.ow.2.2 g hg with h1 | h1
      · rcases h1 with rfl | h1
        · exact absurd hg hW.ne
        · exact hS.v g h1
      · right; have := h1.1; have := hS.s.kp.size; omega
theorem m_wput {b : Nat} (hS : WS w0 vb0 w X lo wb vb bs) (hlo : lo ≤ w.heap.size) (hb : bs.length ≤ 2 ^ 40)
    (k : ∀ vb' w' X', WS w0 vb0 w' X' lo wb vb' (bs ++ [b]) → N undef w' X') :
    eV Tryz.prog R X w true (bsS 95 5 1 1 #[(0, .int .u8 (b : Int))]) fun s w1 X1 => eV Tryz.prog R X1 w1 true (apS 95 5 1 1 95 vb s) fun x w2 X2 =>
      rdW Tryz.prog X2 w2 (nilN (ptr wb 0)) fun p => rdV Tryz.prog X2 w2 (fld 308 0 0 1 p) fun q => eU Tryz.prog R X2 w2 true (st1 95 1 q x) N := by
  refine m_app1x hS.r.ow hS.s.has hlo (by kernel_rfl) (row := U1 b) rfl rfl rfl (by simp; omega) (by simp; omega) fun v' w' X' hc ho hat => ?_
  have hne : ∀ q, blk vb q → q ≠ wb := fun q hq e => hS.r.ne (by rw [← e]; exact hq)
  have hbx : RowIs w' X' wb [vb] 308 := ⟨hc.sub _ hS.r.box.1, by rw [hc.block _ hS.r.box.1 fun hq => hne _ hq rfl]; exact hS.r.box.2⟩
  have hs' := hS.s.chg hc fun q h0 hq => hS.out (.inr hq) h0
  have hv' : ∀ g, v'.ownBlock = some g → vb0.ownBlock = some g ∨ w0.heap.size ≤ g := fun g hg => by
    rcases hat with e | ⟨g', e, hge⟩
    · exact hS.v g (e ▸ hg)
    · rw [e] at hg; cases hg; right; have := hS.s.kp.size; omega
  with_reducible apply r_nil
  have hfi : fieldInfo Tryz.prog 308 0 = some (0, 1) := by kernel_rfl
  refine m_fld1 (hbx.cells) hfi rfl fun o' ho' _ => ?_
  subst ho'
  refine m_st1 hbx (by kernel_rfl) (by simp) (by obtain ⟨_, _, _, rfl⟩ := ho.sl.form; rfl) (by obtain ⟨_, _, _, rfl⟩ := ho.sl.form; rfl) hs'.has fun w3 X3 hc3 hr3 => ?_
  have hne3 : v'.ownBlock ≠ some wb := Own.neRow ho hbx (by kernel_rfl)
  refine k v' w3 X3 ⟨hs'.chg hc3 fun q h0 hq => h0.2 (.inl hq), ⟨?_, ?_⟩, hv'⟩
  · have e : setL [vb] (0 + 0) v'.cells.toList = [v'] := by obtain ⟨_, _, _, rfl⟩ := ho.sl.form; rfl
    rw [e] at hr3; exact hr3
  · rw [List.map_append]
    exact Own.chg ho hc3 fun g hg e => hne3 (by rw [hg, e])
end
theorem d_wire_NewWriter {w : World} {X : XS} : Ct Tryz.prog 156 #[] w X nX fun v wa w' => ∃ wb, v = ptr wb 0 ∧ Wr w' (made wa w') wa.heap.size wb (.slice none 0 0) [] := by
  intro w0 hk
  apply ok_wire_NewWriter; unfold vc_wire_NewWriter
  have hs := Since.init w0
  repeat' first | ((with_reducible apply r_bld); (· kernel_rfl)) | ((with_reducible apply m_boxA); (case hX => exact hs.has); intro bx w X hbx hs1 hrow; have hs0 := hs.trans hs1; replace hs := Since.refl' hs1.has)
  refine fin_ret0 (hs0.trans hs) fun wa hk9 => ⟨bx, rfl, ⟨⟨hbx, (hrow.kp hk9).lt⟩, (hrow.kp hk9).2⟩, Own.nil _ _ _ _ _⟩
theorem d_wire_Int {w : World} {X : XS} {lo wb : Nat} {vb : Value} {bs : List Nat} {n : Int} (h : Wr w X lo wb vb bs) (hb : bs.length ≤ 2 ^ 39) (hlo : lo ≤ w.heap.size) : Puts 206 #[ptr wb 0, I n] w X lo wb vb bs (encI n) := by
  intro w0 hk
  have hlo0 : lo ≤ w0.heap.size := Nat.le_trans hlo hk.size
  have hS := WS.init (h.mv hk.mvo)
  apply ok_wire_Writer_Int; unfold vc_wire_Writer_Int
  have hs := hS.s
  have hbox := hS.r.box
  repeat' first | ((with_reducible apply r_cvI); (· kernel_rfl); (· kernel_rfl)) | (with_reducible apply r_shlW)
  refine jn_by (fun k => k (.int .u64 (zig n : Int))) ?_ ?_
  · refine lp1_of (fun n' a w X => ∃ (u : Nat) (vbi : Value) (bsi : List Nat), a = .int .u64 (u : Int) ∧ n' = u ∧ WS w0 vb w X lo wb vbi bsi ∧ bsi ++ encU u = bs ++ encI n) (zig n) ⟨zig n, vb, bs, rfl, rfl, hS, rfl⟩ ?_
    clear hs hbox hS
    rintro u a w X ⟨_, vbi, bsi, rfl, rfl, hS, hbs⟩
    have hs := hS.s
    have hbox := hS.r.box
    have hlen : bsi.length ≤ 2 ^ 40 := by
      have h1 := congrArg List.length hbs
      have h2 := encI_len n
      simp only [List.length_append] at h1
      omega
    have hlo1 : lo ≤ w.heap.size := Nat.le_trans hlo0 hs.kp.size
    by_cases hu : u < 128
    · have he : encU u = [u] := by rw [encU, if_pos hu]
      repeat' first | ((with_reducible refine r_geqF ?_ ?_); (· omega)) | with_reducible (first | apply condW_F | apply r_nil) | ((with_reducible apply m_fld1); (· exact qF); (· kernel_rfl); (· rfl); intro _ _ _) | ((with_reducible apply m_ld1); (· exact qF); (· exact qM); (· kernel_rfl); (· rfl)) | ((with_reducible apply r_cvI); (· kernel_rfl); (· kernel_rfl))
      rw [wrap8n, show u % 256 = u by omega]
      refine m_wput hS hlo1 hlen fun vb2 w2 X2 hS2 => ?_
      rw [← he, hbs] at hS2
      exact hS2.fin
    · have he : encU u = (u % 128 + 128) :: encU (u / 128) := by rw [encU, if_neg hu]
      repeat' first | ((with_reducible refine r_geqT ?_ ?_); (· omega)) | with_reducible (first | apply condW_T | apply r_nil) | ((with_reducible apply m_fld1); (· exact qF); (· kernel_rfl); (· rfl); intro _ _ _) | ((with_reducible apply m_ld1); (· exact qF); (· exact qM); (· kernel_rfl); (· rfl)) | ((with_reducible apply r_cvI); (· kernel_rfl); (· kernel_rfl)) | (with_reducible apply r_orW)
      refine m_wput hS hlo1 hlen fun vb2 w2 X2 hS2 => ?_
      repeat' first | (with_reducible apply r_shr7)
      refine nx1_of (u / 128) (by omega) ⟨u / 128, vb2, _, rfl, rfl, hS2, ?_⟩
      rw [List.append_assoc, List.singleton_append, ← he]; exact hbs
  · intro K hK
    repeat' first | with_reducible (first | apply condW_T | apply condW_F) | (with_reducible apply r_lss <;> intro _) | ((with_reducible apply r_xorU); (· omega))
    · have : zig n = 18446744073709551615 - ((n % 18446744073709551616).toNat * 2 % 18446744073709551616) := by unfold zig; rw [if_pos (by omega)]
      rw [← this]; exact hK
    · have : zig n = (n % 18446744073709551616).toNat * 2 % 18446744073709551616 := by unfold zig; rw [if_neg (by omega)]
      rw [← this]; exact hK
end Go.Proofs.YtpdkoaklobnegaaGreat
namespace Go.Proofs.YtpdkoaklobnegaaGreat
open Go.Eng
set_option maxRecDepth 100000
set_option maxHeartbeats 1000000
set_option linter.unusedVariables false
set_option linter.unusedSimpArgs false
attribute [local irreducible] un jn chk fld ld1 ldA st1 ixS lnS lnT bld cvI cvF ixA bsS apS rdV rdW grdW eW eV eU eC eF gE condW fin pickN nilN binS vS lp0 lp1 lp2 lp3 lp4 lp5 lp6 lp7 nx0 nx1 nx2 nx3 nx4 nx5 nx6 nx7
theorem txt_rows (s : BA) : (txt s).map (fun x => [x]) = (s.data.toList.map UInt8.toNat).map U1 := by
  unfold txt; simp
section
variable {w0 w : World} {X : XS} {lo wb : Nat} {vb0 vb : Value} {bs ds : List Nat} {R : Ending → World → Prop} {N : Value → World → XS → Prop}
theorem m_wset {v' : Value} {w' : World} {X' : XS} (hS : WS w0 vb0 w X lo wb vb bs) (hc : Chg (blk vb) X w X' w') (ho : Own w' X' lo 5 1 v' (ds.map U1)) (hat : v'.ownBlock = vb.ownBlock ∨ ∃ g, v'.ownBlock = some g ∧ w.heap.size ≤ g)
    (k : ∀ w' X', WS w0 vb0 w' X' lo wb v' ds → N undef w' X') :
    rdW Tryz.prog X' w' (nilN (ptr wb 0)) fun p => rdV Tryz.prog X' w' (fld 308 0 0 1 p) fun q => eU Tryz.prog R X' w' true (st1 95 1 q v') N := by
  have hne : ∀ q, blk vb q → q ≠ wb := fun q hq e => hS.r.ne (by rw [← e]; exact hq)
  have hbx : RowIs w' X' wb [vb] 308 := ⟨hc.sub _ hS.r.box.1, by rw [hc.block _ hS.r.box.1 fun hq => hne _ hq rfl]; exact hS.r.box.2⟩
  have hs' := hS.s.chg hc fun q h0 hq => hS.out (.inr hq) h0
  have hv' : ∀ g, v'.ownBlock = some g → vb0.ownBlock = some g ∨ w0.heap.size ≤ g := fun g hg => by
    rcases hat with e | ⟨g', e, hge⟩
    · exact hS.v g (e ▸ hg)
    · rw [e] at hg; cases hg; right; have := hS.s.kp.size; omega
  with_reducible apply r_nil
  have hfi : fieldInfo Tryz.prog 308 0 = some (0, 1) := by kernel_rfl
  refine m_fld1 (hbx.cells) hfi rfl fun o' ho' _ => ?_
  subst ho'
  refine m_st1 hbx (by kernel_rfl) (by simp) (by obtain ⟨_, _, _, rfl⟩ := ho.sl.form; rfl) (by obtain ⟨_, _, _, rfl⟩ := ho.sl.form; rfl) hs'.has fun w3 X3 hc3 hr3 => ?_
  have hne3 : v'.ownBlock ≠ some wb := Own.neRow ho hbx (by kernel_rfl)
  refine k w3 X3 ⟨hs'.chg hc3 fun q h0 hq => h0.2 (.inl hq), ⟨?_, ?_⟩, hv'⟩
  · have e : setL [vb] (0 + 0) v'.cells.toList = [v'] := by obtain ⟨_, _, _, rfl⟩ := ho.sl.form; rfl
    rw [e] at hr3; exact hr3
  · exact Own.chg ho hc3 fun g hg e => hne3 (by rw [hg, e])
end
theorem d_wire_Text {w : World} {X : XS} {lo wb : Nat} {vb : Value} {bs : List Nat} {s : BA} (h : Wr w X lo wb vb bs) (hb : bs.length ≤ 2 ^ 38) (hlo : lo ≤ w.heap.size) (hs0 : s.size ≤ 2 ^ 38) : Puts 291 #[ptr wb 0, .string s] w X lo wb vb bs (encT s) := by
  intro w0 hk
  have hlo0 : lo ≤ w0.heap.size := Nat.le_trans hlo hk.size
  have hS := WS.init (h.mv hk.mvo)
  apply ok_wire_Writer_Text; unfold vc_wire_Writer_Text
  have hs := hS.s
  repeat' first | ((with_reducible apply r_lnT); (· kernel_rfl))
  refine hS.puts (d_wire_Int hS.r (by omega) hlo0) (by kernel_rfl) fun vb2 w2 X2 hS2 hc2 => ?_
  clear hs
  have hs := hS2.s
  have hbox := hS2.r.box
  have hen := encI_len s.size
  repeat' first | with_reducible apply r_nil | ((with_reducible apply m_fld1); (· exact qF); (· kernel_rfl); (· rfl); intro _ _ _) | ((with_reducible apply m_ld1); (· exact qF); (· exact qM); (· kernel_rfl); (· rfl))
  refine m_appT (bytes := 1) hS2.r.ow hs.has (Nat.le_trans hlo0 hs.kp.size) (by kernel_rfl) (by kernel_rfl) (by simp; omega) (by simp; omega) fun v' w3 X3 hc ho hat => ?_
  rw [txt_rows, ← List.map_append] at ho
  refine m_wset hS2 hc ho hat fun w4 X4 hS4 => ?_
  rw [List.append_assoc] at hS4
  exact hS4.fin
theorem d_wire_Float {w : World} {X : XS} {lo wb : Nat} {vb : Value} {bs : List Nat} {x : Nat} (h : Wr w X lo wb vb bs) (hb : bs.length ≤ 2 ^ 39) (hlo : lo ≤ w.heap.size) : Puts 219 #[ptr wb 0, .float .f64 x] w X lo wb vb bs (encF x) := by
  intro w0 hk
  have hlo0 : lo ≤ w0.heap.size := Nat.le_trans hlo hk.size
  have hS := WS.init (h.mv hk.mvo)
  apply ok_wire_Writer_Float; unfold vc_wire_Writer_Float
  have hs := hS.s
  repeat' first | ((with_reducible refine r_pure (c_num_Bits _) ?_ hs.has ?_); (· kernel_rfl); intro w X hs1; replace hs := hs.trans hs1)
  refine lp2_of (fun n' a b w X => ∃ (i : Nat) (vbi : Value), a = I i ∧ b = .int .u64 ((canon x / 256 ^ i : Nat) : Int) ∧ n' = 8 - i ∧ i ≤ 8 ∧ WS w0 vb w X lo wb vbi (bs ++ (List.range i).map (byteAt (canon x)))) 8
    ⟨0, vb, rfl, by simp, rfl, by omega, by simpa using hS.since (by assumption)⟩ ?_
  clear hs hS hs1
  rintro n' a b w X ⟨i, vbi, rfl, rfl, rfl, hi, hS⟩
  have hs := hS.s
  have hbox := hS.r.box
  have hlo1 : lo ≤ w.heap.size := Nat.le_trans hlo0 hs.kp.size
  by_cases h8 : i < 8
  · repeat' first | ((with_reducible refine r_lssT ?_ ?_); (· omega)) | with_reducible (first | apply condW_T | apply r_nil) | ((with_reducible apply m_fld1); (· exact qF); (· kernel_rfl); (· rfl); intro _ _ _) | ((with_reducible apply m_ld1); (· exact qF); (· exact qM); (· kernel_rfl); (· rfl)) | ((with_reducible apply r_cvI); (· kernel_rfl); (· kernel_rfl))
    rw [wrap8n]
    refine m_wput hS hlo1 (by simp; omega) fun vb2 w2 X2 hS2 => ?_
    repeat' first | ((with_reducible apply r_add); (· omega); (· omega)) | (with_reducible apply r_shr8)
    refine nx2_of (8 - (i + 1)) (by omega) ⟨i + 1, vb2, by simp, ?_, rfl, by omega, ?_⟩
    · rw [Nat.div_div_eq_div_mul, Nat.pow_succ]
    · rw [List.range_succ, List.map_append, ← List.append_assoc]; exact hS2
  · obtain rfl : i = 8 := by omega
    repeat' first | ((with_reducible refine r_lssF ?_ ?_); (· omega)) | with_reducible apply condW_F
    exact hS.fin
theorem d_wire_Bytes {w : World} {X : XS} {lo wb : Nat} {vb : Value} {bs : List Nat} (h : Wr w X lo wb vb bs) (hb : bs.length ≤ 2 ^ 40) : Ct Tryz.prog 157 #[ptr wb 0] w X nX fun v wa w' => Own w' (made wa w') wa.heap.size 5 1 v (bs.map U1) := by
  intro w0 hk
  replace h := h.mv hk.mvo
  have hbox := h.box
  apply ok_wire_Writer_Bytes; unfold vc_wire_Writer_Bytes
  have hs := Since.init w0
  repeat' first | with_reducible apply r_nil | ((with_reducible apply m_fld1); (· exact qF); (· kernel_rfl); (· rfl); intro _ _ _) | ((with_reducible apply m_ld1); (· exact qF); (· exact qM); (· kernel_rfl); (· rfl)) | ((with_reducible apply m_bs0); (case hX => exact hs.has); (case hu => kernel_rfl); (case hz => kernel_rfl); intro acc w X hs1 ho; replace hs := hs.trans hs1) | ((first | (with_reducible refine fin_ret0 hs ?_) | (with_reducible refine fin_ret0 (hs0.trans hs) ?_)); intro wa hk; (exact (ho.kp hk).tight)) | ((with_reducible apply m_appS); (case own => assumption); (case hs => assumption); (case h0 => exact fun _ h => h); (case he => kernel_rfl); (case src => exact Sl.mv h.ow.sl (Since.mv hs)); (case h1 => simp [one]); (case hb => simp; omega); (case hl => simp; omega); intro acc w X hs1 ho hc hat; replace hs := hs1; rw [List.nil_append] at ho)
theorem d_wire_Flag {w : World} {X : XS} {lo wb : Nat} {vb : Value} {bs : List Nat} {b : Bool} (h : Wr w X lo wb vb bs) (hb : bs.length ≤ 2 ^ 39) (hlo : lo ≤ w.heap.size) : Puts 217 #[ptr wb 0, B b] w X lo wb vb bs (encB b) := by
  intro w0 hk
  have hlo0 : lo ≤ w0.heap.size := Nat.le_trans hlo hk.size
  have hS := WS.init (h.mv hk.mvo)
  apply ok_wire_Writer_Flag; unfold vc_wire_Writer_Flag
  have hs := hS.s
  have hbox := hS.r.box
  cases b <;>
  repeat' first | with_reducible (first | apply condW_T | apply condW_F | apply r_nil) | ((with_reducible apply m_fld1); (· exact qF); (· kernel_rfl); (· rfl); intro _ _ _) | ((with_reducible apply m_ld1); (· exact qF); (· exact qM); (· kernel_rfl); (· rfl))
  · refine m_wput (b := 0) hS hlo0 (by omega) fun vb2 w2 X2 hS2 => ?_
    exact hS2.fin
  · refine m_wput (b := 1) hS hlo0 (by omega) fun vb2 w2 X2 hS2 => ?_
    exact hS2.fin
end Go.Proofs.YtpdkoaklobnegaaGreat
namespace Go.Proofs.YtpdkoaklobnegaaGreat
open Go.Eng
set_option maxRecDepth 100000
set_option maxHeartbeats 1000000
set_option linter.unusedVariables false
set_option linter.unusedSimpArgs false
attribute [local irreducible] un jn chk fld ld1 ldA st1 ixS lnS lnT bld cvI cvF ixA bsS apS rdV rdW grdW eW eV eU eC eF gE condW fin pickN nilN binS vS lp0 lp1 lp2 lp3 lp4 lp5 lp6 lp7 nx0 nx1 nx2 nx3 nx4 nx5 nx6 nx7
def Zok (Z X : XS) (wb : Nat) (vb : Value) : Prop := ∀ k, Z k → X k ∧ ¬ fpW wb vb k
section
variable {w0 w : World} {X : XS} {lo wb : Nat} {vb0 vb : Value} {bs ds : List Nat}
theorem WS.z (hS : WS w0 vb0 w X lo wb vb bs) : Zok (Eng.out (fpW wb vb0) w0) X wb vb := fun k h => ⟨hS.s.sub k h, fun hf => hS.out hf h⟩
theorem WS.at (hS : WS w0 vb0 w X lo wb vb bs) : Mv (Eng.out (fpW wb vb0) w0) w0 (Eng.out (fpW wb vb0) w0) w := fun k hk _ => ⟨hk, hS.s.kp.block k hk⟩
theorem Zok.mv {Z : XS} (h : Zok Z X wb vb) (hk : Kp X w w0) : Mv Z w (out (fpW wb vb) w0) w0 := fun k hk' hl => ⟨⟨Nat.lt_of_lt_of_le hl hk.size, (h k hk').2⟩, hk.block k (h k hk').1⟩
end
abbrev coderL (wb : Nat) : List Value := [ptr wb 0, .pointer none]
theorem d_datum_Put {w : World} {X : XS} {lo wb : Nat} {vb : Value} {bs : List Nat} {v : Val} (h : Wr w X lo wb vb bs) (hb : bs.length ≤ 2 ^ 37) (hlo : lo ≤ w.heap.size) : Puts 296 #[ptr wb 0, v.v] w X lo wb vb bs (encV v) := by
  intro w0 hk
  have hlo0 : lo ≤ w0.heap.size := Nat.le_trans hlo hk.size
  have hS := WS.init (h.mv hk.mvo)
  apply ok_datum_Put; unfold vc_datum_Put
  have hs := hS.s
  refine jn_by (fun k => ∀ w X, Since (old w0) w0 X w → k (if v.may then v else Val.zero).v w X) ?_ ?_
  · intro w X hsX
    generalize hu : (if v.may then v else Val.zero) = u
    have hue : encV v = encI u.kind ++ (if u.kind = 1 then encF u.num else if u.kind = 2 then encT u.text else []) := by unfold encV; simp only [hu]
    have hut : u.kind = 2 → u.text.size ≤ 64 := by
      intro h2
      by_cases hm : v.may = true
      · rw [if_pos hm] at hu
        subst hu
        unfold Val.may at hm
        rw [if_neg (by omega), if_neg (by omega), if_pos h2] at hm
        simp at hm
        omega
      · rw [if_neg hm] at hu
        rw [← hu] at h2; cases h2
    have hS1 := hS.since hsX
    replace hs := hS1.s
    repeat' first | ((with_reducible apply un_cell); (· rfl)) | ((with_reducible apply chk_T); (· exact qC))
    refine hS1.puts (d_wire_Int hS1.r (by omega) (Nat.le_trans hlo0 hs.kp.size)) (by kernel_rfl) fun vb2 w2 X2 hS2 hc2 => ?_
    have he := encI_len u.kind
    replace hs := hS2.s
    repeat' first | ((with_reducible apply chk_T); (· exact qC))
    refine jn_by (fun k => ∀ w X vb3, WS w0 vb w X lo wb vb3 (bs ++ encV v) → k w X) ?_ ?_
    · intro w X vb3 hS3
      exact hS3.fin
    · intro K hK
      rw [hue, ← List.append_assoc] at hK
      repeat' first | with_reducible (first | apply condW_T | apply condW_F) | ((with_reducible apply un_cell); (· rfl)) | (with_reducible apply r_eql <;> intro _) | ((with_reducible apply chk_T); (· exact qC))
      · refine hS2.puts (d_wire_Float hS2.r (by simp; omega) (Nat.le_trans hlo0 hs.kp.size)) (by kernel_rfl) fun vb3 w3 X3 hS3 hc3 => ?_
        replace hs := hS3.s
        skip
        rw [if_pos (by omega)] at hK
        exact hK _ _ _ hS3
      · refine hS2.puts (d_wire_Text hS2.r (by simp; omega) (Nat.le_trans hlo0 hs.kp.size) (by have := hut (by omega); omega)) (by kernel_rfl) fun vb3 w3 X3 hS3 hc3 => ?_
        replace hs := hS3.s
        skip
        rw [if_neg (by omega), if_pos (by omega)] at hK
        exact hK _ _ _ hS3
      · rw [if_neg (by omega), if_neg (by omega)] at hK
        rw [List.append_nil] at hK
        exact hK _ _ _ hS2
  · intro K hK
    have hs := Since.init w0
    cases hm : v.may <;> rw [hm] at hK
    · repeat' first | with_reducible (first | apply condW_T | apply condW_F | apply un_box | apply r_notT | apply r_notF) | ((with_reducible apply r_bld); (· kernel_rfl)) | ((with_reducible apply m_chkc); (case h => exact qE)) | ((with_reducible apply chk_T); (· exact qC)) | ((with_reducible refine r_pureB (c_datum_May _) ?_ hs.has ?_ ?_); (· kernel_rfl); all_goals (intro _ w X hs1; replace hs := hs.trans hs1))
      all_goals first | exact hK _ _ hs | (exfalso; simp_all)
    · repeat' first | with_reducible (first | apply condW_T | apply condW_F | apply un_box | apply r_notT | apply r_notF) | ((with_reducible apply r_bld); (· kernel_rfl)) | ((with_reducible apply m_chkc); (case h => exact qE)) | ((with_reducible apply chk_T); (· exact qC)) | ((with_reducible refine r_pureB (c_datum_May _) ?_ hs.has ?_ ?_); (· kernel_rfl); all_goals (intro _ w X hs1; replace hs := hs.trans hs1))
      all_goals first | exact hK _ _ hs | (exfalso; simp_all)
theorem d_coder_Int {w : World} {X Z : XS} {lo wb cb xb xo : Nat} {vb : Value} {bs : List Nat} {n : Int} (h : Wr w X lo wb vb bs) (hc : Cells w Z cb 0 (coderL wb)) (hx : Cells w Z xb xo [I n]) (hZ : Zok Z X wb vb) (hb : bs.length ≤ 2 ^ 38) (hlo : lo ≤ w.heap.size) :
    Puts 142 #[ptr cb 0, ptr xb xo] w X lo wb vb bs (encI n) := by
  intro w0 hk
  have hlo0 : lo ≤ w0.heap.size := Nat.le_trans hlo hk.size
  replace hc := hc.mv (hZ.mv hk)
  replace hx := hx.mv (hZ.mv hk)
  have hS := WS.init (h.mv hk.mvo)
  apply ok_coder_Coder_Int; unfold vc_coder_Coder_Int
  have hs := hS.s
  repeat' first | with_reducible (first | apply condW_T | apply r_nil) | ((with_reducible apply m_fld1); (· exact qF); (· kernel_rfl); (· rfl); intro _ _ _) | ((with_reducible apply m_ld1); (· exact qF); (· exact qM); (· kernel_rfl); (· rfl)) | ((with_reducible apply m_pneF); (· kernel_rfl))
  refine hS.puts (d_wire_Int hS.r (by omega) hlo0) (by kernel_rfl) fun vb2 w2 X2 hS2 hc2 => ?_
  skip
  exact hS2.fin
theorem d_coder_Text {w : World} {X Z : XS} {lo wb cb xb xo : Nat} {vb : Value} {bs : List Nat} {s : BA} (h : Wr w X lo wb vb bs) (hc : Cells w Z cb 0 (coderL wb)) (hx : Cells w Z xb xo [.string s]) (hZ : Zok Z X wb vb) (hb : bs.length ≤ 2 ^ 38) (hlo : lo ≤ w.heap.size) (hs0 : s.size ≤ 2 ^ 38) :
    Puts 214 #[ptr cb 0, ptr xb xo] w X lo wb vb bs (encT s) := by
  intro w0 hk
  have hlo0 : lo ≤ w0.heap.size := Nat.le_trans hlo hk.size
  replace hc := hc.mv (hZ.mv hk)
  replace hx := hx.mv (hZ.mv hk)
  have hS := WS.init (h.mv hk.mvo)
  apply ok_coder_Coder_Text; unfold vc_coder_Coder_Text
  have hs := hS.s
  repeat' first | with_reducible (first | apply condW_T | apply r_nil) | ((with_reducible apply m_fld1); (· exact qF); (· kernel_rfl); (· rfl); intro _ _ _) | ((with_reducible apply m_ld1); (· exact qF); (· exact qM); (· kernel_rfl); (· rfl)) | ((with_reducible apply m_pneF); (· kernel_rfl))
  refine hS.puts (d_wire_Text hS.r (by omega) hlo0 hs0) (by kernel_rfl) fun vb2 w2 X2 hS2 hc2 => ?_
  skip
  exact hS2.fin
theorem d_coder_Stamp {w : World} {X Z : XS} {lo wb cb xb xo : Nat} {vb : Value} {bs : List Nat} {s : Stamp} (h : Wr w X lo wb vb bs) (hc : Cells w Z cb 0 (coderL wb)) (hx : Cells w Z xb xo s.l) (hZ : Zok Z X wb vb) (hb : bs.length ≤ 2 ^ 37) (hlo : lo ≤ w.heap.size) :
    Puts 148 #[ptr cb 0, ptr xb xo] w X lo wb vb bs (encSt s) := by
  have e1 := encI_len s.wall
  have e2 := encI_len s.logic
  intro w0 hk
  have hlo0 : lo ≤ w0.heap.size := Nat.le_trans hlo hk.size
  replace hc := hc.mv (hZ.mv hk)
  replace hx := hx.mv (hZ.mv hk)
  have hS := WS.init (h.mv hk.mvo)
  apply ok_coder_Coder_Stamp; unfold vc_coder_Coder_Stamp
  have hs := hS.s
  repeat' first | with_reducible apply r_nil | ((with_reducible apply m_fld1); (· exact qF); (· kernel_rfl); (· rfl); intro _ _ _)
  refine hS.puts (d_coder_Int (hS.r) (hc.mv hS.at) (Cells.mv (by assumption) hS.at) hS.z (by omega) hlo0) (by kernel_rfl) fun vb2 w2 X2 hS2 hc2 => ?_
  replace hs := hS2.s
  repeat' first | with_reducible apply r_nil | ((with_reducible apply m_fld1); (· exact qF); (· kernel_rfl); (· rfl); intro _ _ _)
  refine hS2.puts (d_coder_Int (hS2.r) (hc.mv hS2.at) (Cells.mv (by assumption) hS2.at) hS2.z (by simp; omega) (Nat.le_trans hlo0 hs.kp.size)) (by kernel_rfl) fun vb3 w3 X3 hS3 hc3 => ?_
  replace hs := hS3.s
  repeat' first | with_reducible apply r_nil | ((with_reducible apply m_fld1); (· exact qF); (· kernel_rfl); (· rfl); intro _ _ _)
  refine hS3.puts (d_coder_Int (hS3.r) (hc.mv hS3.at) (Cells.mv (by assumption) hS3.at) hS3.z (by simp; omega) (Nat.le_trans hlo0 hs.kp.size)) (by kernel_rfl) fun vb4 w4 X4 hS4 hc4 => ?_
  replace hs := hS4.s
  skip
  rw [List.append_assoc, List.append_assoc, ← List.append_assoc (encI s.wall)] at hS4
  exact hS4.fin
theorem d_coder_Txn {w : World} {X Z : XS} {lo wb cb xb xo : Nat} {vb : Value} {bs : List Nat} {s : Txn} (h : Wr w X lo wb vb bs) (hc : Cells w Z cb 0 (coderL wb)) (hx : Cells w Z xb xo s.l) (hZ : Zok Z X wb vb) (hb : bs.length ≤ 2 ^ 37) (hlo : lo ≤ w.heap.size) :
    Puts 146 #[ptr cb 0, ptr xb xo] w X lo wb vb bs (encTx s) := by
  have e1 := encI_len s.coord
  have e2 := encI_len s.life
  intro w0 hk
  have hlo0 : lo ≤ w0.heap.size := Nat.le_trans hlo hk.size
  replace hc := hc.mv (hZ.mv hk)
  replace hx := hx.mv (hZ.mv hk)
  have hS := WS.init (h.mv hk.mvo)
  apply ok_coder_Coder_Txn; unfold vc_coder_Coder_Txn
  have hs := hS.s
  repeat' first | with_reducible apply r_nil | ((with_reducible apply m_fld1); (· exact qF); (· kernel_rfl); (· rfl); intro _ _ _)
  refine hS.puts (d_coder_Int (hS.r) (hc.mv hS.at) (Cells.mv (by assumption) hS.at) hS.z (by omega) hlo0) (by kernel_rfl) fun vb2 w2 X2 hS2 hc2 => ?_
  replace hs := hS2.s
  repeat' first | with_reducible apply r_nil | ((with_reducible apply m_fld1); (· exact qF); (· kernel_rfl); (· rfl); intro _ _ _)
  refine hS2.puts (d_coder_Int (hS2.r) (hc.mv hS2.at) (Cells.mv (by assumption) hS2.at) hS2.z (by simp; omega) (Nat.le_trans hlo0 hs.kp.size)) (by kernel_rfl) fun vb3 w3 X3 hS3 hc3 => ?_
  replace hs := hS3.s
  repeat' first | with_reducible apply r_nil | ((with_reducible apply m_fld1); (· exact qF); (· kernel_rfl); (· rfl); intro _ _ _)
  refine hS3.puts (d_coder_Int (hS3.r) (hc.mv hS3.at) (Cells.mv (by assumption) hS3.at) hS3.z (by simp; omega) (Nat.le_trans hlo0 hs.kp.size)) (by kernel_rfl) fun vb4 w4 X4 hS4 hc4 => ?_
  replace hs := hS4.s
  skip
  rw [List.append_assoc, List.append_assoc, ← List.append_assoc (encI s.coord)] at hS4
  exact hS4.fin
theorem encT_len (s : BA) : (encT s).length = (encI s.size).length + s.size := by
  unfold encT
  rw [List.length_append, List.length_map]
  congr 1
theorem encV_len {v : Val} : (encV v).length ≤ 100 := by
  unfold encV
  generalize hu : (if v.may then v else Val.zero) = u
  have h1 := encI_len u.kind
  have hut : u.kind = 2 → u.text.size ≤ 64 := by
    intro h2
    by_cases hm : v.may = true
    · rw [if_pos hm] at hu
      subst hu
      unfold Val.may at hm
      rw [if_neg (by omega), if_neg (by omega), if_pos h2] at hm
      simp at hm
      omega
    · rw [if_neg hm] at hu
      rw [← hu] at h2; cases h2
  dsimp only
  rw [List.length_append]
  by_cases k1 : u.kind = 1
  · rw [if_pos k1]; unfold encF; simp; omega
  · rw [if_neg k1]
    by_cases k2 : u.kind = 2
    · rw [if_pos k2]
      have h3 := hut k2
      have h4 := encI_len u.text.size
      rw [encT_len]
      omega
    · rw [if_neg k2]; simp; omega
theorem d_coder_Value {w : World} {X Z : XS} {lo wb cb xb xo : Nat} {vb : Value} {bs : List Nat} {v : Val} (h : Wr w X lo wb vb bs) (hc : Cells w Z cb 0 (coderL wb)) (hx : Cells w Z xb xo v.l) (hZ : Zok Z X wb vb) (hb : bs.length ≤ 2 ^ 37) (hlo : lo ≤ w.heap.size) :
    Puts 221 #[ptr cb 0, ptr xb xo] w X lo wb vb bs (encV v) := by
  intro w0 hk
  have hlo0 : lo ≤ w0.heap.size := Nat.le_trans hlo hk.size
  replace hc := hc.mv (hZ.mv hk)
  replace hx := hx.mv (hZ.mv hk)
  have hS := WS.init (h.mv hk.mvo)
  apply ok_coder_Coder_Value; unfold vc_coder_Coder_Value
  have hs := hS.s
  repeat' first | with_reducible (first | apply condW_T | apply r_nil) | ((with_reducible apply m_fld1); (· exact qF); (· kernel_rfl); (· rfl); intro _ _ _) | ((with_reducible apply m_ld1); (· exact qF); (· exact qM); (· kernel_rfl); (· rfl)) | ((with_reducible apply m_ldA); (· exact qF); (· exact qM); (· kernel_rfl); (· rfl)) | ((with_reducible apply m_pneF); (· kernel_rfl))
  refine hS.puts (d_datum_Put hS.r (by omega) hlo0) (by kernel_rfl) fun vb2 w2 X2 hS2 hc2 => ?_
  skip
  exact hS2.fin
theorem d_coder_Write {w : World} {X Z : XS} {lo wb cb xb xo : Nat} {vb : Value} {bs : List Nat} {x : KV} (h : Wr w X lo wb vb bs) (hc : Cells w Z cb 0 (coderL wb)) (hx : Cells w Z xb xo x.l) (hZ : Zok Z X wb vb) (hb : bs.length ≤ 2 ^ 35) (hlo : lo ≤ w.heap.size) (hs0 : x.key.size ≤ 2 ^ 35) :
    Puts 151 #[ptr cb 0, ptr xb xo] w X lo wb vb bs (encKV x) := by
  have e1 : (encT x.key).length ≤ 10 + x.key.size := by
    have := encI_len x.key.size
    rw [encT_len]
    omega
  intro w0 hk
  have hlo0 : lo ≤ w0.heap.size := Nat.le_trans hlo hk.size
  replace hc := hc.mv (hZ.mv hk)
  replace hx := hx.mv (hZ.mv hk)
  have hS := WS.init (h.mv hk.mvo)
  apply ok_coder_Coder_Write; unfold vc_coder_Coder_Write
  have hs := hS.s
  repeat' first | with_reducible apply r_nil | ((with_reducible apply m_fld1); (· exact qF); (· kernel_rfl); (· rfl); intro _ _ _)
  refine hS.puts (d_coder_Text hS.r (hc.mv hS.at) (Cells.mv (by assumption) hS.at) hS.z (by omega) hlo0 (by omega)) (by kernel_rfl) fun vb2 w2 X2 hS2 hc2 => ?_
  replace hs := hS2.s
  repeat' first | with_reducible apply r_nil | ((with_reducible apply m_fld); (· exact qF); (· kernel_rfl); (· rfl); (· exact qN); intro _ _ _)
  refine hS2.puts (d_coder_Value (v := x.val) hS2.r (hc.mv hS2.at) (Cells.mv (by assumption) hS2.at) hS2.z (by simp; omega) (Nat.le_trans hlo0 hs.kp.size)) (by kernel_rfl) fun vb3 w3 X3 hS3 hc3 => ?_
  replace hs := hS3.s
  skip
  rw [List.append_assoc] at hS3
  exact hS3.fin
theorem d_coder_Pair {w : World} {X Z : XS} {lo wb cb xb xo : Nat} {vb : Value} {bs : List Nat} {x : KV} (h : Wr w X lo wb vb bs) (hc : Cells w Z cb 0 (coderL wb)) (hx : Cells w Z xb xo x.l) (hZ : Zok Z X wb vb) (hb : bs.length ≤ 2 ^ 35) (hlo : lo ≤ w.heap.size) (hs0 : x.key.size ≤ 2 ^ 35) :
    Puts 153 #[ptr cb 0, ptr xb xo] w X lo wb vb bs (encKV x) := by
  have e1 : (encT x.key).length ≤ 10 + x.key.size := by
    have := encI_len x.key.size
    rw [encT_len]
    omega
  intro w0 hk
  have hlo0 : lo ≤ w0.heap.size := Nat.le_trans hlo hk.size
  replace hc := hc.mv (hZ.mv hk)
  replace hx := hx.mv (hZ.mv hk)
  have hS := WS.init (h.mv hk.mvo)
  apply ok_coder_Coder_Pair; unfold vc_coder_Coder_Pair
  have hs := hS.s
  repeat' first | with_reducible apply r_nil | ((with_reducible apply m_fld1); (· exact qF); (· kernel_rfl); (· rfl); intro _ _ _)
  refine hS.puts (d_coder_Text hS.r (hc.mv hS.at) (Cells.mv (by assumption) hS.at) hS.z (by omega) hlo0 (by omega)) (by kernel_rfl) fun vb2 w2 X2 hS2 hc2 => ?_
  replace hs := hS2.s
  repeat' first | with_reducible apply r_nil | ((with_reducible apply m_fld); (· exact qF); (· kernel_rfl); (· rfl); (· exact qN); intro _ _ _)
  refine hS2.puts (d_coder_Value (v := x.val) hS2.r (hc.mv hS2.at) (Cells.mv (by assumption) hS2.at) hS2.z (by simp; omega) (Nat.le_trans hlo0 hs.kp.size)) (by kernel_rfl) fun vb3 w3 X3 hS3 hc3 => ?_
  replace hs := hS3.s
  skip
  rw [List.append_assoc] at hS3
  exact hS3.fin
end Go.Proofs.YtpdkoaklobnegaaGreat
namespace Go.Proofs.YtpdkoaklobnegaaGreat
open Go.Eng
set_option maxRecDepth 100000
set_option maxHeartbeats 1000000
set_option linter.unusedVariables false
set_option linter.unusedSimpArgs false
attribute [local irreducible] un jn chk fld ld1 ldA st1 ixS lnS lnT bld cvI cvF ixA bsS apS rdV rdW grdW eW eV eU eC eF gE condW fin pickN nilN binS vS lp0 lp1 lp2 lp3 lp4 lp5 lp6 lp7 nx0 nx1 nx2 nx3 nx4 nx5 nx6 nx7
theorem flat_take {α : Type} {f : α → List Nat} {xs : List α} {i : Nat} {x : α} (h : xs[i]? = some x) : ((xs.take (i + 1)).map f).flatten = ((xs.take i).map f).flatten ++ f x := by
  rw [List.take_add_one, h]; simp
theorem flat_bound {α : Type} {f : α → List Nat} {B : Nat} : ∀ {xs : List α}, (∀ x ∈ xs, (f x).length ≤ B) → ((xs.map f).flatten).length ≤ xs.length * B
  | [], _ => by simp
  | x :: xs, h => by
    have h1 := flat_bound (xs := xs) fun y hy => h y (List.mem_cons_of_mem _ hy)
    have h2 := h x (by simp)
    simp only [List.map_cons, List.flatten_cons, List.length_append, List.length_cons]
    rw [Nat.succ_mul]; omega
theorem encKV_len {x : KV} : (encKV x).length ≤ 110 + x.key.size := by
  have h1 := encI_len x.key.size
  have h2 := encV_len (v := x.val)
  have h3 := encT_len x.key
  unfold encKV
  rw [List.length_append]; omega
theorem d_coder_ListWrite {w : World} {X Z : XS} {lo wb cb xb xo : Nat} {vb va : Value} {bs : List Nat} {xs : List KV} (h : Wr w X lo wb vb bs) (hc : Cells w Z cb 0 (coderL wb)) (hx : Cells w Z xb xo [va]) (ha : Sl w Z 4 va (xs.map KV.l)) (hZ : Zok Z X wb vb) (hb : bs.length ≤ 2 ^ 34) (hlo : lo ≤ w.heap.size) (hl : xs.length ≤ 2 ^ 16) (hk0 : ∀ x ∈ xs, x.key.size ≤ 2 ^ 16) :
    Puts 150 #[ptr cb 0, ptr xb xo, .func (.func 151) #[ptr cb 0] #[]] w X lo wb vb bs (encL encKV xs) := by
  intro w0 hk
  have hlo0 : lo ≤ w0.heap.size := Nat.le_trans hlo hk.size
  replace hc := hc.mv (hZ.mv hk)
  replace hx := hx.mv (hZ.mv hk)
  replace ha := ha.mv (hZ.mv hk)
  have hS := WS.init (h.mv hk.mvo)
  have hla := ha.len'
  apply ok_coder_List_api_Write; unfold vc_coder_List_api_Write
  have hs := hS.s
  repeat' first | with_reducible apply r_nil | ((with_reducible apply m_ld1); (· exact qF); (· exact qM); (· kernel_rfl); (· rfl)) | ((with_reducible apply m_lnS); (· exact qO); (· kernel_rfl))
  refine jn_by (fun (k : Value → World → XS → Prop) => ∀ w X vb2, WS w0 vb w X lo wb vb2 (bs ++ encI xs.length) → k (I xs.length) w X) ?_ ?_
  · intro w X vb2 hS2
    refine lp1_of (fun n' a w X => ∃ (i : Nat) (vbi : Value), a = I i ∧ n' = xs.length - i ∧ i ≤ xs.length ∧ WS w0 vb w X lo wb vbi (bs ++ encI xs.length ++ ((xs.take i).map encKV).flatten)) xs.length ⟨0, vb2, rfl, rfl, Nat.zero_le _, by simpa using hS2⟩ ?_
    clear hS2 hS hs
    rintro n' a w X ⟨i, vbi, rfl, rfl, hi, hS⟩
    have hs := hS.s
    have he := encI_len xs.length
    have hbd : (((xs.take i).map encKV).flatten).length ≤ 2 ^ 33 := by
      refine Nat.le_trans (flat_bound (B := 110 + 2 ^ 16) fun x hx => ?_) ?_
      · have h1 := encKV_len (x := x)
        have h2 := hk0 x (List.mem_of_mem_take hx)
        omega
      · have h3 : (xs.take i).length ≤ 2 ^ 16 := by rw [List.length_take]; omega
        exact Nat.le_trans (Nat.mul_le_mul_right _ h3) (by decide)
    rcases at_or xs i with ⟨hlt, x, hxi, hd⟩ | ⟨hge, hd⟩
    · have hkx := hk0 x (List.mem_of_getElem? hxi)
      repeat' first | ((with_reducible refine r_lssT ?_ ?_); (· omega)) | with_reducible apply condW_T
      refine jn_by (fun (k : World → XS → Prop) => k w X) ?_ ?_
      · repeat' first | with_reducible apply r_nil | ((with_reducible apply m_ld1); (· exact qF); (· exact qM); (· kernel_rfl); (· rfl)) | ((with_reducible apply m_ixS); (· exact qO); (try (case hz => rfl)); (case hr => exact qR); (try (case hz => omega)); (case ht => kernel_rfl); (case hs => kernel_rfl); intro _ _ _)
        refine m_fun1 ?_
        refine hS.puts (d_coder_Write (x := x) hS.r (hc.mv hS.at) (Cells.mv (by assumption) hS.at) hS.z (by simp only [List.length_append]; omega) (Nat.le_trans hlo0 hs.kp.size) (by omega)) (by kernel_rfl) fun vb3 w3 X3 hS3 hc3 => ?_
        replace hs := hS3.s
        repeat' first | ((with_reducible apply r_add); (· omega); (· omega))
        refine nx1_of (xs.length - (i + 1)) (by omega) ⟨i + 1, vb3, by simp, rfl, by omega, ?_⟩
        rw [flat_take hxi, ← List.append_assoc]; exact hS3
      · intro K hK
        repeat' first | with_reducible (first | apply condW_F | apply r_nil) | ((with_reducible apply m_fld1); (· exact qF); (· kernel_rfl); (· rfl); intro _ _ _) | ((with_reducible apply m_ld1); (· exact qF); (· exact qM); (· kernel_rfl); (· rfl)) | ((with_reducible apply m_pnilF); (· kernel_rfl)) | exact hK
    · rw [List.take_of_length_le hge] at hS
      repeat' first | ((with_reducible refine r_lssF ?_ ?_); (· omega)) | with_reducible apply condW_F
      rw [List.append_assoc] at hS
      exact hS.fin
  · intro K hK
    repeat' first | with_reducible (first | apply condW_T | apply r_nil) | ((with_reducible apply m_fld1); (· exact qF); (· kernel_rfl); (· rfl); intro _ _ _) | ((with_reducible apply m_ld1); (· exact qF); (· exact qM); (· kernel_rfl); (· rfl)) | ((with_reducible apply m_pneF); (· kernel_rfl))
    refine hS.puts (d_wire_Int hS.r (by omega) hlo0) (by kernel_rfl) fun vb2 w2 X2 hS2 hc2 => ?_
    replace hs := hS2.s
    skip
    exact hK _ _ _ hS2
theorem d_coder_ListPair {w : World} {X Z : XS} {lo wb cb xb xo : Nat} {vb va : Value} {bs : List Nat} {xs : List KV} (h : Wr w X lo wb vb bs) (hc : Cells w Z cb 0 (coderL wb)) (hx : Cells w Z xb xo [va]) (ha : Sl w Z 4 va (xs.map KV.l)) (hZ : Zok Z X wb vb) (hb : bs.length ≤ 2 ^ 34) (hlo : lo ≤ w.heap.size) (hl : xs.length ≤ 2 ^ 16) (hk0 : ∀ x ∈ xs, x.key.size ≤ 2 ^ 16) :
    Puts 152 #[ptr cb 0, ptr xb xo, .func (.func 153) #[ptr cb 0] #[]] w X lo wb vb bs (encL encKV xs) := by
  intro w0 hk
  have hlo0 : lo ≤ w0.heap.size := Nat.le_trans hlo hk.size
  replace hc := hc.mv (hZ.mv hk)
  replace hx := hx.mv (hZ.mv hk)
  replace ha := ha.mv (hZ.mv hk)
  have hS := WS.init (h.mv hk.mvo)
  have hla := ha.len'
  apply ok_coder_List_api_Pair; unfold vc_coder_List_api_Pair
  have hs := hS.s
  repeat' first | with_reducible apply r_nil | ((with_reducible apply m_ld1); (· exact qF); (· exact qM); (· kernel_rfl); (· rfl)) | ((with_reducible apply m_lnS); (· exact qO); (· kernel_rfl))
  refine jn_by (fun (k : Value → World → XS → Prop) => ∀ w X vb2, WS w0 vb w X lo wb vb2 (bs ++ encI xs.length) → k (I xs.length) w X) ?_ ?_
  · intro w X vb2 hS2
    refine lp1_of (fun n' a w X => ∃ (i : Nat) (vbi : Value), a = I i ∧ n' = xs.length - i ∧ i ≤ xs.length ∧ WS w0 vb w X lo wb vbi (bs ++ encI xs.length ++ ((xs.take i).map encKV).flatten)) xs.length ⟨0, vb2, rfl, rfl, Nat.zero_le _, by simpa using hS2⟩ ?_
    clear hS2 hS hs
    rintro n' a w X ⟨i, vbi, rfl, rfl, hi, hS⟩
    have hs := hS.s
    have he := encI_len xs.length
    have hbd : (((xs.take i).map encKV).flatten).length ≤ 2 ^ 33 := by
      refine Nat.le_trans (flat_bound (B := 110 + 2 ^ 16) fun x hx => ?_) ?_
      · have h1 := encKV_len (x := x)
        have h2 := hk0 x (List.mem_of_mem_take hx)
        omega
      · have h3 : (xs.take i).length ≤ 2 ^ 16 := by rw [List.length_take]; omega
        exact Nat.le_trans (Nat.mul_le_mul_right _ h3) (by decide)
    rcases at_or xs i with ⟨hlt, x, hxi, hd⟩ | ⟨hge, hd⟩
    · have hkx := hk0 x (List.mem_of_getElem? hxi)
      repeat' first | ((with_reducible refine r_lssT ?_ ?_); (· omega)) | with_reducible apply condW_T
      refine jn_by (fun (k : World → XS → Prop) => k w X) ?_ ?_
      · repeat' first | with_reducible apply r_nil | ((with_reducible apply m_ld1); (· exact qF); (· exact qM); (· kernel_rfl); (· rfl)) | ((with_reducible apply m_ixS); (· exact qO); (try (case hz => rfl)); (case hr => exact qR); (try (case hz => omega)); (case ht => kernel_rfl); (case hs => kernel_rfl); intro _ _ _)
        refine m_fun1 ?_
        refine hS.puts (d_coder_Pair (x := x) hS.r (hc.mv hS.at) (Cells.mv (by assumption) hS.at) hS.z (by simp only [List.length_append]; omega) (Nat.le_trans hlo0 hs.kp.size) (by omega)) (by kernel_rfl) fun vb3 w3 X3 hS3 hc3 => ?_
        replace hs := hS3.s
        repeat' first | ((with_reducible apply r_add); (· omega); (· omega))
        refine nx1_of (xs.length - (i + 1)) (by omega) ⟨i + 1, vb3, by simp, rfl, by omega, ?_⟩
        rw [flat_take hxi, ← List.append_assoc]; exact hS3
      · intro K hK
        repeat' first | with_reducible (first | apply condW_F | apply r_nil) | ((with_reducible apply m_fld1); (· exact qF); (· kernel_rfl); (· rfl); intro _ _ _) | ((with_reducible apply m_ld1); (· exact qF); (· exact qM); (· kernel_rfl); (· rfl)) | ((with_reducible apply m_pnilF); (· kernel_rfl)) | exact hK
    · rw [List.take_of_length_le hge] at hS
      repeat' first | ((with_reducible refine r_lssF ?_ ?_); (· omega)) | with_reducible apply condW_F
      rw [List.append_assoc] at hS
      exact hS.fin
  · intro K hK
    repeat' first | with_reducible (first | apply condW_T | apply r_nil) | ((with_reducible apply m_fld1); (· exact qF); (· kernel_rfl); (· rfl); intro _ _ _) | ((with_reducible apply m_ld1); (· exact qF); (· exact qM); (· kernel_rfl); (· rfl)) | ((with_reducible apply m_pneF); (· kernel_rfl))
    refine hS.puts (d_wire_Int hS.r (by omega) hlo0) (by kernel_rfl) fun vb2 w2 X2 hS2 hc2 => ?_
    replace hs := hS2.s
    skip
    exact hK _ _ _ hS2
end Go.Proofs.YtpdkoaklobnegaaGreat
namespace Go.Proofs.YtpdkoaklobnegaaGreat
open Go.Eng
set_option maxRecDepth 100000
set_option maxHeartbeats 1000000
set_option linter.unusedVariables false
set_option linter.unusedSimpArgs false
attribute [local irreducible] un jn chk fld ld1 ldA st1 ixS lnS lnT bld cvI cvF ixA bsS apS rdV rdW grdW eW eV eU eC eF gE condW fin pickN nilN binS vS lp0 lp1 lp2 lp3 lp4 lp5 lp6 lp7 nx0 nx1 nx2 nx3 nx4 nx5 nx6 nx7
def encA (r : Rec) : List Nat := encI r.kind ++ (encSt r.prev ++ (encSt r.stamp ++ (encTx r.txn ++ encL encKV r.writes)))
def encBs (r : Rec) : List Nat := encI r.kind ++ (encSt r.stamp ++ encL encKV r.pairs)
theorem encSt_len (s : Stamp) : (encSt s).length ≤ 30 := by
  have h1 := encI_len s.wall
  have h2 := encI_len s.logic
  have h3 := encI_len s.node
  unfold encSt; simp only [List.length_append]; omega
theorem encTx_len (s : Txn) : (encTx s).length ≤ 30 := by
  have h1 := encI_len s.coord
  have h2 := encI_len s.life
  have h3 := encI_len s.sq
  unfold encTx; simp only [List.length_append]; omega
theorem d_recs_walkA {w : World} {X Z : XS} {lo wb cb xb : Nat} {vb : Value} {bs : List Nat} {r : Rec} {vr vw vp vq vh vd : Value} (h : Wr w X lo wb vb bs) (hc : Cells w Z cb 0 (coderL wb)) (hx : Cells w Z xb 0 (r.l vr vw vp vq vh vd)) (ha : Sl w Z 4 vw (r.writes.map KV.l)) (hZ : Zok Z X wb vb) (hb : bs.length ≤ 2 ^ 33) (hlo : lo ≤ w.heap.size)
    (hk1 : r.kind = 11) (hl : r.writes.length ≤ 2 ^ 16) (hk0 : ∀ x ∈ r.writes, x.key.size ≤ 2 ^ 16) :
    Puts 89 #[ptr cb 0, ptr xb 0] w X lo wb vb bs (encA r) := by
  intro w0 hk
  have hlo0 : lo ≤ w0.heap.size := Nat.le_trans hlo hk.size
  replace hc := hc.mv (hZ.mv hk)
  replace hx := hx.mv (hZ.mv hk)
  replace ha := ha.mv (hZ.mv hk)
  have hS := WS.init (h.mv hk.mvo)
  have e1 := encI_len r.kind
  have e2 := encSt_len r.prev
  have e3 := encSt_len r.stamp
  have e4 := encTx_len r.txn
  apply ok_recs_walk; unfold vc_recs_walk
  have hs := hS.s
  repeat' first | with_reducible apply r_nil | ((with_reducible apply m_fld1); (· exact qF); (· kernel_rfl); (· rfl); intro _ _ _)
  refine hS.puts (d_coder_Int hS.r (hc.mv hS.at) (Cells.mv (by assumption) hS.at) hS.z (by (try simp only [List.length_append]); omega) (Nat.le_trans hlo0 hs.kp.size)) (by kernel_rfl) fun vb2 w X hS2 _ => ?_
  replace hs := hS2.s
  repeat' first | ((with_reducible refine r_eqlT ?_ ?_); (· omega)) | ((with_reducible refine r_eqlF ?_ ?_); (· omega)) | with_reducible (first | apply condW_T | apply condW_F | apply r_nil) | ((with_reducible apply m_fld1); (· exact qF); (· kernel_rfl); (· rfl); intro _ _ _) | ((with_reducible apply m_fld); (· exact qF); (· kernel_rfl); (· rfl); (· exact qN); intro _ _ _) | ((with_reducible apply m_ld1); (· exact qF); (· exact qM); (· kernel_rfl); (· rfl)) | with_reducible apply jn_of
  refine hS2.puts (d_coder_Stamp (s := r.prev) hS2.r (hc.mv hS2.at) (Cells.mv (by assumption) hS2.at) hS2.z (by (try simp only [List.length_append]); omega) (Nat.le_trans hlo0 hs.kp.size)) (by kernel_rfl) fun vb3 w X hS3 _ => ?_
  replace hs := hS3.s
  repeat' first | with_reducible apply r_nil | ((with_reducible apply m_fld); (· exact qF); (· kernel_rfl); (· rfl); (· exact qN); intro _ _ _)
  refine hS3.puts (d_coder_Stamp (s := r.stamp) hS3.r (hc.mv hS3.at) (Cells.mv (by assumption) hS3.at) hS3.z (by (try simp only [List.length_append]); omega) (Nat.le_trans hlo0 hs.kp.size)) (by kernel_rfl) fun vb4 w X hS4 _ => ?_
  replace hs := hS4.s
  repeat' first | with_reducible apply r_nil | ((with_reducible apply m_fld); (· exact qF); (· kernel_rfl); (· rfl); (· exact qN); intro _ _ _)
  refine hS4.puts (d_coder_Txn (s := r.txn) hS4.r (hc.mv hS4.at) (Cells.mv (by assumption) hS4.at) hS4.z (by (try simp only [List.length_append]); omega) (Nat.le_trans hlo0 hs.kp.size)) (by kernel_rfl) fun vb5 w X hS5 _ => ?_
  replace hs := hS5.s
  repeat' first | with_reducible apply r_nil | ((with_reducible apply m_fld1); (· exact qF); (· kernel_rfl); (· rfl); intro _ _ _) | (with_reducible apply m_mkFun)
  refine hS5.puts (d_coder_ListWrite hS5.r (hc.mv hS5.at) (Cells.mv (by assumption) hS5.at) (ha.mv hS5.at) hS5.z (by simp only [List.length_append]; omega) (Nat.le_trans hlo0 hs.kp.size) hl hk0) (by kernel_rfl) fun vb6 w X hS6 _ => ?_
  unfold encA
  simp only [List.append_assoc] at hS6
  exact hS6.fin
theorem d_recs_walkB {w : World} {X Z : XS} {lo wb cb xb : Nat} {vb : Value} {bs : List Nat} {r : Rec} {vr vw vp vq vh vd : Value} (h : Wr w X lo wb vb bs) (hc : Cells w Z cb 0 (coderL wb)) (hx : Cells w Z xb 0 (r.l vr vw vp vq vh vd)) (ha : Sl w Z 4 vq (r.pairs.map KV.l)) (hZ : Zok Z X wb vb) (hb : bs.length ≤ 2 ^ 33) (hlo : lo ≤ w.heap.size)
    (hk1 : r.kind = 12) (hl : r.pairs.length ≤ 2 ^ 16) (hk0 : ∀ x ∈ r.pairs, x.key.size ≤ 2 ^ 16) :
    Puts 89 #[ptr cb 0, ptr xb 0] w X lo wb vb bs (encBs r) := by
  intro w0 hk
  have hlo0 : lo ≤ w0.heap.size := Nat.le_trans hlo hk.size
  replace hc := hc.mv (hZ.mv hk)
  replace hx := hx.mv (hZ.mv hk)
  replace ha := ha.mv (hZ.mv hk)
  have hS := WS.init (h.mv hk.mvo)
  have e1 := encI_len r.kind
  have e2 := encSt_len r.prev
  have e3 := encSt_len r.stamp
  have e4 := encTx_len r.txn
  apply ok_recs_walk; unfold vc_recs_walk
  have hs := hS.s
  repeat' first | with_reducible apply r_nil | ((with_reducible apply m_fld1); (· exact qF); (· kernel_rfl); (· rfl); intro _ _ _)
  refine hS.puts (d_coder_Int hS.r (hc.mv hS.at) (Cells.mv (by assumption) hS.at) hS.z (by (try simp only [List.length_append]); omega) (Nat.le_trans hlo0 hs.kp.size)) (by kernel_rfl) fun vb2 w X hS2 _ => ?_
  replace hs := hS2.s
  repeat' first | ((with_reducible refine r_eqlT ?_ ?_); (· omega)) | ((with_reducible refine r_eqlF ?_ ?_); (· omega)) | with_reducible (first | apply condW_T | apply condW_F | apply r_nil) | ((with_reducible apply m_fld1); (· exact qF); (· kernel_rfl); (· rfl); intro _ _ _) | ((with_reducible apply m_fld); (· exact qF); (· kernel_rfl); (· rfl); (· exact qN); intro _ _ _) | ((with_reducible apply m_ld1); (· exact qF); (· exact qM); (· kernel_rfl); (· rfl)) | with_reducible apply jn_of
  refine hS2.puts (d_coder_Stamp (s := r.stamp) hS2.r (hc.mv hS2.at) (Cells.mv (by assumption) hS2.at) hS2.z (by (try simp only [List.length_append]); omega) (Nat.le_trans hlo0 hs.kp.size)) (by kernel_rfl) fun vb5 w X hS5 _ => ?_
  replace hs := hS5.s
  repeat' first | with_reducible apply r_nil | ((with_reducible apply m_fld1); (· exact qF); (· kernel_rfl); (· rfl); intro _ _ _) | (with_reducible apply m_mkFun)
  refine hS5.puts (d_coder_ListPair hS5.r (hc.mv hS5.at) (Cells.mv (by assumption) hS5.at) (ha.mv hS5.at) hS5.z (by simp only [List.length_append]; omega) (Nat.le_trans hlo0 hs.kp.size) hl hk0) (by kernel_rfl) fun vb6 w X hS6 _ => ?_
  unfold encBs
  simp only [List.append_assoc] at hS6
  exact hS6.fin
end Go.Proofs.YtpdkoaklobnegaaGreat
namespace Go.Proofs.YtpdkoaklobnegaaGreat
open Go.Eng
set_option maxRecDepth 100000
set_option maxHeartbeats 1000000
set_option linter.unusedVariables false
set_option linter.unusedSimpArgs false
attribute [local irreducible] un jn chk fld ld1 ldA st1 ixS lnS lnT bld cvI cvF ixA bsS apS rdV rdW grdW eW eV eU eC eF gE condW fin pickN nilN binS vS lp0 lp1 lp2 lp3 lp4 lp5 lp6 lp7 nx0 nx1 nx2 nx3 nx4 nx5 nx6 nx7
theorem d_recs_EncodeA {w : World} {X : XS} {r : Rec} {vr vw vp vq vh vd : Value} (h : r.at w X vr vw vp vq vh vd) (hsm : r.small) (hk1 : r.kind = 11) (hok : r.err = 0 → r.writes.length ≤ 2 ^ 16 ∧ (∀ x ∈ r.writes, x.key.size ≤ 2 ^ 16) ∧ (encA r).length ≤ 262144) :
    Ct Tryz.prog 91 #[r.v vr vw vp vq vh vd] w X nX fun v wa w' => if r.err ≠ 0 then v = .tuple #[.slice none 0 0, I r.err] else ∃ vb, v = .tuple #[vb, I 0] ∧ Own w' (made wa w') wa.heap.size 5 1 vb ((encA r).map U1) := by
  intro w0 hk
  replace h := h.mv hk.mvo
  have o1 := h.1.one
  have o2 := h.2.1.one
  have o3 := h.2.2.1.one
  have o4 := h.2.2.2.1.one
  have o5 := h.2.2.2.2.1.one
  have o6 := h.2.2.2.2.2.one
  apply ok_recs_Encode; unfold vc_recs_Encode
  have hs := Since.init w0
  repeat' first | with_reducible (first | apply condW_T | apply condW_F) | (with_reducible apply r_neq <;> intro _) | ((with_reducible apply m_ldA); (· exact qF); (· exact qM); (· kernel_rfl); (· rfl)) | ((with_reducible apply m_boxA); (case hX => exact hs.has); intro bx w X hbx hs1 hrow; have hs0 := hs.trans hs1; replace hs := Since.refl' hs1.has) | (refine r_ct0V (d_recs_May (r := r) (h.mv (hs0.trans hs).mv) hsm) (by kernel_rfl) hs.has fun w X hs1 => ?_; replace hs := hs.trans hs1)
  · exact fin_ret0 (hs0.trans hs) fun wa hk => by dsimp only; rw [if_pos (by assumption)]
  · have hr0 : r.err = 0 := by assumption
    obtain ⟨k1, k2, k3⟩ := hok hr0
    refine r_ct0 d_wire_NewWriter (by kernel_rfl) hs.has ?_
    rintro v wa w2 X2 ⟨wb, rfl, hW⟩ hle hin hs2
    have hsA := hs0.trans (hs.trans hs2)
    have hb1 := hrow.lt
    have hz1 := hs.kp.size
    have hz0 := hs0.kp.size
    have hwb := hW.box.1
    have hrow2 := hrow.since (hs.trans hs2)
    refine r_bld (by kernel_rfl) ?_
    refine m_boxA hsA.has fun cb w3 X3 hcb hs3 hrowC => ?_
    have hsB := hsA.trans hs3
    have hrow3 := hrow2.since hs3
    obtain ⟨Z, hZd⟩ : ∃ Z : XS, Z = fun k => k = bx ∨ k = cb ∨ old w0 k := ⟨_, rfl⟩
    have hwb1 : wa.heap.size ≤ wb ∧ wb < w2.heap.size := hwb
    have hZ : Zok Z X3 wb (.slice none 0 0) := fun k hk' => by
      rw [hZd] at hk'
      refine ⟨?_, fun hf => ?_⟩
      · rcases hk' with rfl | rfl | hk'
        · exact hrow3.1
        · exact hrowC.1
        · exact hsB.sub k hk'
      · rcases hf with hf | hf
        · rcases hk' with e | e | e
          · omega
          · omega
          · have : k < w0.heap.size := e
            omega
        · cases hf
    have hcC : Cells w3 Z cb 0 (coderL wb) := RowIs.cells (ty := 175) ⟨by rw [hZd]; exact .inr (.inl rfl), hrowC.2⟩
    have hxC : Cells w3 Z bx 0 (r.l vr vw vp vq vh vd) := RowIs.cells (ty := 117) ⟨by rw [hZd]; exact .inl rfl, hrow3.2⟩
    have haC : Sl w3 Z 4 vw (r.writes.map KV.l) := h.2.1.mv fun k hk' hl => ⟨by rw [hZd]; exact .inr (.inr hk'), hsB.kp.block k hk'⟩
    have hW3 : Wr w3 X3 wa.heap.size wb (.slice none 0 0) [] := (hW.mv (Mv.sub hin)).mv hs3.mv
    refine r_ct (d_recs_walkA hW3 hcC hxC haC hZ (by simp) (by have := hs3.kp.size; omega) hk1 k1 k2) (by kernel_rfl) hsB.has (fun q hq => by
      rcases hq with rfl | hq
      · exact hW3.box.1
      · cases hq) fun v wa4 w4 X4 hq hle4 hin4 hkp4 hc4 => ?_
    obtain ⟨rfl, vb', hW4⟩ := hq
    have hs4 := hsB.chg hc4 fun k hk' hf => by
      have h0 : k < w0.heap.size := hk'
      rcases hf with hf | hf
      · omega
      · cases hf
    have hW5 : Wr w4 X4 wa.heap.size wb vb' (encA r) := hW4.mv (Mv.sub fun k hk' => by
      rcases hk' with (hk' | hk') | hk'
      · rw [hk']; exact hc4.sub _ hW3.box.1
      · cases hk'
      · exact hin4 k hk')
    refine r_ct0 (d_wire_Bytes hW5 (by omega)) (by kernel_rfl) hs4.has ?_
    rintro v5 wa5 w5 X5 ho5 hle5 hin5 hs5
    have hsC := hs4.trans hs5
    have ho : Own w5 X5 w0.heap.size 5 1 v5 ((encA r).map U1) := ho5.up hin5 (by have := hs4.kp.size; omega)
    clear hs hs0
    have hs := hsC
    have ov := ho.sl.one
    repeat' first | ((with_reducible refine r_gtrF ?_ ?_); (· omega)) | with_reducible apply condW_F | ((with_reducible apply m_lnS); (· exact qO); (· kernel_rfl))
    exact fin_ret0 hs fun wb hk9 => by
      dsimp only
      rw [if_neg (by simpa using hr0)]
      exact ⟨v5, rfl, (ho.kp hk9).tight⟩
theorem d_recs_EncodeB {w : World} {X : XS} {r : Rec} {vr vw vp vq vh vd : Value} (h : r.at w X vr vw vp vq vh vd) (hsm : r.small) (hk1 : r.kind = 12) (hok : r.err = 0 → r.pairs.length ≤ 2 ^ 16 ∧ (∀ x ∈ r.pairs, x.key.size ≤ 2 ^ 16) ∧ (encBs r).length ≤ 262144) :
    Ct Tryz.prog 91 #[r.v vr vw vp vq vh vd] w X nX fun v wa w' => if r.err ≠ 0 then v = .tuple #[.slice none 0 0, I r.err] else ∃ vb, v = .tuple #[vb, I 0] ∧ Own w' (made wa w') wa.heap.size 5 1 vb ((encBs r).map U1) := by
  intro w0 hk
  replace h := h.mv hk.mvo
  have o1 := h.1.one
  have o2 := h.2.1.one
  have o3 := h.2.2.1.one
  have o4 := h.2.2.2.1.one
  have o5 := h.2.2.2.2.1.one
  have o6 := h.2.2.2.2.2.one
  apply ok_recs_Encode; unfold vc_recs_Encode
  have hs := Since.init w0
  repeat' first | with_reducible (first | apply condW_T | apply condW_F) | (with_reducible apply r_neq <;> intro _) | ((with_reducible apply m_ldA); (· exact qF); (· exact qM); (· kernel_rfl); (· rfl)) | ((with_reducible apply m_boxA); (case hX => exact hs.has); intro bx w X hbx hs1 hrow; have hs0 := hs.trans hs1; replace hs := Since.refl' hs1.has) | (refine r_ct0V (d_recs_May (r := r) (h.mv (hs0.trans hs).mv) hsm) (by kernel_rfl) hs.has fun w X hs1 => ?_; replace hs := hs.trans hs1)
  · exact fin_ret0 (hs0.trans hs) fun wa hk => by dsimp only; rw [if_pos (by assumption)]
  · have hr0 : r.err = 0 := by assumption
    obtain ⟨k1, k2, k3⟩ := hok hr0
    refine r_ct0 d_wire_NewWriter (by kernel_rfl) hs.has ?_
    rintro v wa w2 X2 ⟨wb, rfl, hW⟩ hle hin hs2
    have hsA := hs0.trans (hs.trans hs2)
    have hb1 := hrow.lt
    have hz1 := hs.kp.size
    have hz0 := hs0.kp.size
    have hwb := hW.box.1
    have hrow2 := hrow.since (hs.trans hs2)
    refine r_bld (by kernel_rfl) ?_
    refine m_boxA hsA.has fun cb w3 X3 hcb hs3 hrowC => ?_
    have hsB := hsA.trans hs3
    have hrow3 := hrow2.since hs3
    obtain ⟨Z, hZd⟩ : ∃ Z : XS, Z = fun k => k = bx ∨ k = cb ∨ old w0 k := ⟨_, rfl⟩
    have hwb1 : wa.heap.size ≤ wb ∧ wb < w2.heap.size := hwb
    have hZ : Zok Z X3 wb (.slice none 0 0) := fun k hk' => by
      rw [hZd] at hk'
      refine ⟨?_, fun hf => ?_⟩
      · rcases hk' with rfl | rfl | hk'
        · exact hrow3.1
        · exact hrowC.1
        · exact hsB.sub k hk'
      · rcases hf with hf | hf
        · rcases hk' with e | e | e
          · omega
          · omega
          · have : k < w0.heap.size := e
            omega
        · cases hf
    have hcC : Cells w3 Z cb 0 (coderL wb) := RowIs.cells (ty := 175) ⟨by rw [hZd]; exact .inr (.inl rfl), hrowC.2⟩
    have hxC : Cells w3 Z bx 0 (r.l vr vw vp vq vh vd) := RowIs.cells (ty := 117) ⟨by rw [hZd]; exact .inl rfl, hrow3.2⟩
    have haC : Sl w3 Z 4 vq (r.pairs.map KV.l) := h.2.2.2.1.mv fun k hk' hl => ⟨by rw [hZd]; exact .inr (.inr hk'), hsB.kp.block k hk'⟩
    have hW3 : Wr w3 X3 wa.heap.size wb (.slice none 0 0) [] := (hW.mv (Mv.sub hin)).mv hs3.mv
    refine r_ct (d_recs_walkB hW3 hcC hxC haC hZ (by simp) (by have := hs3.kp.size; omega) hk1 k1 k2) (by kernel_rfl) hsB.has (fun q hq => by
      rcases hq with rfl | hq
      · exact hW3.box.1
      · cases hq) fun v wa4 w4 X4 hq hle4 hin4 hkp4 hc4 => ?_
    obtain ⟨rfl, vb', hW4⟩ := hq
    have hs4 := hsB.chg hc4 fun k hk' hf => by
      have h0 : k < w0.heap.size := hk'
      rcases hf with hf | hf
      · omega
      · cases hf
    have hW5 : Wr w4 X4 wa.heap.size wb vb' (encBs r) := hW4.mv (Mv.sub fun k hk' => by
      rcases hk' with (hk' | hk') | hk'
      · rw [hk']; exact hc4.sub _ hW3.box.1
      · cases hk'
      · exact hin4 k hk')
    refine r_ct0 (d_wire_Bytes hW5 (by omega)) (by kernel_rfl) hs4.has ?_
    rintro v5 wa5 w5 X5 ho5 hle5 hin5 hs5
    have hsC := hs4.trans hs5
    have ho : Own w5 X5 w0.heap.size 5 1 v5 ((encBs r).map U1) := ho5.up hin5 (by have := hs4.kp.size; omega)
    clear hs hs0
    have hs := hsC
    have ov := ho.sl.one
    repeat' first | ((with_reducible refine r_gtrF ?_ ?_); (· omega)) | with_reducible apply condW_F | ((with_reducible apply m_lnS); (· exact qO); (· kernel_rfl))
    exact fin_ret0 hs fun wb hk9 => by
      dsimp only
      rw [if_neg (by simpa using hr0)]
      exact ⟨v5, rfl, (ho.kp hk9).tight⟩
end Go.Proofs.YtpdkoaklobnegaaGreat
namespace Go.Proofs.YtpdkoaklobnegaaGreat
open Go.Eng
set_option maxRecDepth 100000
set_option maxHeartbeats 1000000
set_option linter.unusedVariables false
set_option linter.unusedSimpArgs false
attribute [local irreducible] un jn chk fld ld1 ldA st1 ixS lnS lnT bld cvI cvF ixA bsS apS rdV rdW grdW eW eV eU eC eF gE condW fin pickN nilN binS vS lp0 lp1 lp2 lp3 lp4 lp5 lp6 lp7 nx0 nx1 nx2 nx3 nx4 nx5 nx6 nx7
def encRg (r : Rng) : List Nat := encI r.id ++ (encI r.epoch ++ (encF r.lo ++ encF r.hi))
def encVer (v : Ver) : List Nat := encSt v.stamp ++ encV v.val
def encH (h : Hist) : List Nat := encT h.key ++ encL encVer h.vers
def encP (p : Pend) : List Nat := encTx p.txn ++ (encSt p.stamp ++ (encL encT p.reads ++ encL encKV p.writes))
def encS (s : State) : List Nat := encRg s.range ++ (encSt s.floor ++ (encSt s.closed ++ (encL encH s.hists ++ encL encP s.pend)))
theorem encL_at {α : Type} {f : α → List Nat} {xs : List α} {i : Nat} {x : α} (h : xs[i]? = some x) : (encI xs.length).length + ((xs.take i).map f).flatten.length + (f x).length ≤ (encL f xs).length := by
  have h1 : xs = xs.take i ++ (x :: xs.drop (i + 1)) := by
    obtain ⟨hi, rfl⟩ := List.getElem?_eq_some_iff.1 h
    rw [← List.drop_eq_getElem_cons hi, List.take_append_drop]
  have h2 : (encL f xs).length = (encI xs.length).length + ((xs.take i).map f).flatten.length + ((f x).length + ((xs.drop (i + 1)).map f).flatten.length) := by
    unfold encL
    conv => lhs; rw [h1]
    rw [List.map_append, List.flatten_append, ← h1]
    simp only [List.map_cons, List.flatten_cons, List.length_append]
    omega
  omega
theorem encF_len (x : Nat) : (encF x).length = 8 := by simp [encF]
theorem encKV_key (x : KV) : x.key.size ≤ (encKV x).length := by
  have h1 := encT_len x.key
  unfold encKV
  rw [List.length_append]; omega
theorem d_coder_Flag {w : World} {X Z : XS} {lo wb cb xb xo : Nat} {vb : Value} {bs : List Nat} {b : Bool} (h : Wr w X lo wb vb bs) (hc : Cells w Z cb 0 (coderL wb)) (hx : Cells w Z xb xo [B b]) (hZ : Zok Z X wb vb) (hb : bs.length ≤ 2 ^ 38) (hlo : lo ≤ w.heap.size) :
    Puts 147 #[ptr cb 0, ptr xb xo] w X lo wb vb bs (encB b) := by
  intro w0 hk
  have hlo0 : lo ≤ w0.heap.size := Nat.le_trans hlo hk.size
  replace hc := hc.mv (hZ.mv hk)
  replace hx := hx.mv (hZ.mv hk)
  have hS := WS.init (h.mv hk.mvo)
  apply ok_coder_Coder_Flag; unfold vc_coder_Coder_Flag
  have hs := hS.s
  repeat' first | with_reducible (first | apply condW_T | apply r_nil) | ((with_reducible apply m_fld1); (· exact qF); (· kernel_rfl); (· rfl); intro _ _ _) | ((with_reducible apply m_ld1); (· exact qF); (· exact qM); (· kernel_rfl); (· rfl)) | ((with_reducible apply m_pneF); (· kernel_rfl))
  refine hS.puts (d_wire_Flag hS.r (by omega) hlo0) (by kernel_rfl) fun vb2 w2 X2 hS2 hc2 => ?_
  skip
  exact hS2.fin
theorem d_coder_Float {w : World} {X Z : XS} {lo wb cb xb xo : Nat} {vb : Value} {bs : List Nat} {x : Nat} (h : Wr w X lo wb vb bs) (hc : Cells w Z cb 0 (coderL wb)) (hx : Cells w Z xb xo [.float .f64 x]) (hZ : Zok Z X wb vb) (hb : bs.length ≤ 2 ^ 38) (hlo : lo ≤ w.heap.size) :
    Puts 149 #[ptr cb 0, ptr xb xo] w X lo wb vb bs (encF x) := by
  intro w0 hk
  have hlo0 : lo ≤ w0.heap.size := Nat.le_trans hlo hk.size
  replace hc := hc.mv (hZ.mv hk)
  replace hx := hx.mv (hZ.mv hk)
  have hS := WS.init (h.mv hk.mvo)
  apply ok_coder_Coder_Float; unfold vc_coder_Coder_Float
  have hs := hS.s
  repeat' first | with_reducible (first | apply condW_T | apply r_nil) | ((with_reducible apply m_fld1); (· exact qF); (· kernel_rfl); (· rfl); intro _ _ _) | ((with_reducible apply m_ld1); (· exact qF); (· exact qM); (· kernel_rfl); (· rfl)) | ((with_reducible apply m_pneF); (· kernel_rfl))
  refine hS.puts (d_wire_Float hS.r (by omega) hlo0) (by kernel_rfl) fun vb2 w2 X2 hS2 hc2 => ?_
  skip
  exact hS2.fin
theorem d_coder_Range {w : World} {X Z : XS} {lo wb cb xb xo : Nat} {vb : Value} {bs : List Nat} {r : Rng} (h : Wr w X lo wb vb bs) (hc : Cells w Z cb 0 (coderL wb)) (hx : Cells w Z xb xo r.l) (hZ : Zok Z X wb vb) (hb : bs.length ≤ 2 ^ 36) (hlo : lo ≤ w.heap.size) :
    Puts 209 #[ptr cb 0, ptr xb xo] w X lo wb vb bs (encRg r) := by
  have e1 := encI_len r.id
  have e2 := encI_len r.epoch
  have e3 := encF_len r.lo
  intro w0 hk
  have hlo0 : lo ≤ w0.heap.size := Nat.le_trans hlo hk.size
  replace hc := hc.mv (hZ.mv hk)
  replace hx := hx.mv (hZ.mv hk)
  have hS := WS.init (h.mv hk.mvo)
  apply ok_coder_Coder_Range; unfold vc_coder_Coder_Range
  have hs := hS.s
  repeat' first | with_reducible apply r_nil | ((with_reducible apply m_fld1); (· exact qF); (· kernel_rfl); (· rfl); intro _ _ _)
  refine hS.puts (d_coder_Int hS.r (hc.mv hS.at) (Cells.mv (by assumption) hS.at) hS.z (by (try simp only [List.length_append]); omega) (Nat.le_trans hlo0 hs.kp.size)) (by kernel_rfl) fun vb2 w X hS2 _ => ?_
  replace hs := hS2.s
  repeat' first | with_reducible apply r_nil | ((with_reducible apply m_fld1); (· exact qF); (· kernel_rfl); (· rfl); intro _ _ _)
  refine hS2.puts (d_coder_Int hS2.r (hc.mv hS2.at) (Cells.mv (by assumption) hS2.at) hS2.z (by (try simp only [List.length_append]); omega) (Nat.le_trans hlo0 hs.kp.size)) (by kernel_rfl) fun vb3 w X hS3 _ => ?_
  replace hs := hS3.s
  repeat' first | with_reducible apply r_nil | ((with_reducible apply m_fld1); (· exact qF); (· kernel_rfl); (· rfl); intro _ _ _)
  refine hS3.puts (d_coder_Float hS3.r (hc.mv hS3.at) (Cells.mv (by assumption) hS3.at) hS3.z (by (try simp only [List.length_append]); omega) (Nat.le_trans hlo0 hs.kp.size)) (by kernel_rfl) fun vb4 w X hS4 _ => ?_
  replace hs := hS4.s
  repeat' first | with_reducible apply r_nil | ((with_reducible apply m_fld1); (· exact qF); (· kernel_rfl); (· rfl); intro _ _ _)
  refine hS4.puts (d_coder_Float hS4.r (hc.mv hS4.at) (Cells.mv (by assumption) hS4.at) hS4.z (by (try simp only [List.length_append]); omega) (Nat.le_trans hlo0 hs.kp.size)) (by kernel_rfl) fun vb5 w X hS5 _ => ?_
  replace hs := hS5.s
  skip
  unfold encRg
  simp only [List.append_assoc] at hS5
  exact hS5.fin
theorem d_coder_version {w : World} {X Z : XS} {lo wb cb xb xo : Nat} {vb : Value} {bs : List Nat} {x : Ver} (h : Wr w X lo wb vb bs) (hc : Cells w Z cb 0 (coderL wb)) (hx : Cells w Z xb xo x.l) (hZ : Zok Z X wb vb) (hb : bs.length ≤ 2 ^ 36) (hlo : lo ≤ w.heap.size) :
    Puts 290 #[ptr cb 0, ptr xb xo] w X lo wb vb bs (encVer x) := by
  have e1 := encSt_len x.stamp
  intro w0 hk
  have hlo0 : lo ≤ w0.heap.size := Nat.le_trans hlo hk.size
  replace hc := hc.mv (hZ.mv hk)
  replace hx := hx.mv (hZ.mv hk)
  have hS := WS.init (h.mv hk.mvo)
  apply ok_coder_Coder_version; unfold vc_coder_Coder_version
  have hs := hS.s
  repeat' first | with_reducible apply r_nil | ((with_reducible apply m_fld); (· exact qF); (· kernel_rfl); (· rfl); (· exact qN); intro _ _ _)
  refine hS.puts (d_coder_Stamp (s := x.stamp) hS.r (hc.mv hS.at) (Cells.mv (by assumption) hS.at) hS.z (by (try simp only [List.length_append]); omega) (Nat.le_trans hlo0 hs.kp.size)) (by kernel_rfl) fun vb2 w X hS2 _ => ?_
  replace hs := hS2.s
  repeat' first | with_reducible apply r_nil | ((with_reducible apply m_fld); (· exact qF); (· kernel_rfl); (· rfl); (· exact qN); intro _ _ _)
  refine hS2.puts (d_coder_Value (v := x.val) hS2.r (hc.mv hS2.at) (Cells.mv (by assumption) hS2.at) hS2.z (by (try simp only [List.length_append]); omega) (Nat.le_trans hlo0 hs.kp.size)) (by kernel_rfl) fun vb3 w X hS3 _ => ?_
  replace hs := hS3.s
  skip
  unfold encVer
  simp only [List.append_assoc] at hS3
  exact hS3.fin
theorem d_coder_ListText {w : World} {X Z : XS} {lo wb cb xb xo : Nat} {vb va : Value} {bs : List Nat} {xs : List BA} (h : Wr w X lo wb vb bs) (hc : Cells w Z cb 0 (coderL wb)) (hx : Cells w Z xb xo [va]) (ha : Sl w Z 1 va (xs.map S1)) (hZ : Zok Z X wb vb) (hlo : lo ≤ w.heap.size) (hb : bs.length + (encL encT xs).length ≤ 2 ^ 33) :
    Puts 213 #[ptr cb 0, ptr xb xo, .func (.func 214) #[ptr cb 0] #[]] w X lo wb vb bs (encL encT xs) := by
    intro w0 hk
    have hlo0 : lo ≤ w0.heap.size := Nat.le_trans hlo hk.size
    replace hc := hc.mv (hZ.mv hk)
    replace hx := hx.mv (hZ.mv hk)
    replace ha := ha.mv (hZ.mv hk)
    have hS := WS.init (h.mv hk.mvo)
    have hla := ha.len'
    apply ok_coder_List_string; unfold vc_coder_List_string
    have hs := hS.s
    repeat' first | with_reducible apply r_nil | ((with_reducible apply m_ld1); (· exact qF); (· exact qM); (· kernel_rfl); (· rfl)) | ((with_reducible apply m_lnS); (· exact qO); (· kernel_rfl))
    refine jn_by (fun (k : Value → World → XS → Prop) => ∀ w X vb2, WS w0 vb w X lo wb vb2 (bs ++ encI xs.length) → k (I xs.length) w X) ?_ ?_
    · intro w X vb2 hS2
      refine lp1_of (fun n' a w X => ∃ (i : Nat) (vbi : Value), a = I i ∧ n' = xs.length - i ∧ i ≤ xs.length ∧ WS w0 vb w X lo wb vbi (bs ++ encI xs.length ++ ((xs.take i).map encT).flatten)) xs.length ⟨0, vb2, rfl, rfl, Nat.zero_le _, by simpa using hS2⟩ ?_
      clear hS2 hS hs
      rintro n' a w X ⟨i, vbi, rfl, rfl, hi, hS⟩
      have hs := hS.s
      rcases at_or xs i with ⟨hlt, x, hxi, hd⟩ | ⟨hge, hd⟩
      · have hbx := encL_at (f := encT) hxi
        repeat' first | ((with_reducible refine r_lssT ?_ ?_); (· omega)) | with_reducible apply condW_T
        refine jn_by (fun (k : World → XS → Prop) => k w X) ?_ ?_
        · repeat' first | with_reducible apply r_nil | ((with_reducible apply m_ld1); (· exact qF); (· exact qM); (· kernel_rfl); (· rfl)) | ((with_reducible apply m_ixS); (· exact qO); (try (case hz => rfl)); (case hr => exact qR); (try (case hz => omega)); (case ht => kernel_rfl); (case hs => kernel_rfl); intro _ _ _)
          refine m_fun1 ?_
          refine hS.puts (d_coder_Text (s := x) hS.r (hc.mv hS.at) (Cells.mv (by assumption) hS.at) hS.z (by simp only [List.length_append]; omega) (Nat.le_trans hlo0 hs.kp.size) (by have := encT_len x; omega)) (by kernel_rfl) fun vb3 w3 X3 hS3 hc3 => ?_
          replace hs := hS3.s
          repeat' first | ((with_reducible apply r_add); (· omega); (· omega))
          refine nx1_of (xs.length - (i + 1)) (by omega) ⟨i + 1, vb3, by simp, rfl, by omega, ?_⟩
          rw [flat_take hxi, ← List.append_assoc]; exact hS3
        · intro K hK
          repeat' first | with_reducible (first | apply condW_F | apply r_nil) | ((with_reducible apply m_fld1); (· exact qF); (· kernel_rfl); (· rfl); intro _ _ _) | ((with_reducible apply m_ld1); (· exact qF); (· exact qM); (· kernel_rfl); (· rfl)) | ((with_reducible apply m_pnilF); (· kernel_rfl)) | exact hK
      · rw [List.take_of_length_le hge] at hS
        repeat' first | ((with_reducible refine r_lssF ?_ ?_); (· omega)) | with_reducible apply condW_F
        rw [List.append_assoc] at hS
        exact hS.fin
    · intro K hK
      repeat' first | with_reducible (first | apply condW_T | apply r_nil) | ((with_reducible apply m_fld1); (· exact qF); (· kernel_rfl); (· rfl); intro _ _ _) | ((with_reducible apply m_ld1); (· exact qF); (· exact qM); (· kernel_rfl); (· rfl)) | ((with_reducible apply m_pneF); (· kernel_rfl))
      refine hS.puts (d_wire_Int hS.r (by omega) hlo0) (by kernel_rfl) fun vb2 w2 X2 hS2 hc2 => ?_
      replace hs := hS2.s
      skip
      exact hK _ _ _ hS2
theorem d_coder_ListInt {w : World} {X Z : XS} {lo wb cb xb xo : Nat} {vb va : Value} {bs : List Nat} {xs : List Int} (h : Wr w X lo wb vb bs) (hc : Cells w Z cb 0 (coderL wb)) (hx : Cells w Z xb xo [va]) (ha : Sl w Z 1 va (xs.map I1)) (hZ : Zok Z X wb vb) (hlo : lo ≤ w.heap.size) (hb : bs.length + (encL encI xs).length ≤ 2 ^ 33) :
    Puts 145 #[ptr cb 0, ptr xb xo, .func (.func 142) #[ptr cb 0] #[]] w X lo wb vb bs (encL encI xs) := by
    intro w0 hk
    have hlo0 : lo ≤ w0.heap.size := Nat.le_trans hlo hk.size
    replace hc := hc.mv (hZ.mv hk)
    replace hx := hx.mv (hZ.mv hk)
    replace ha := ha.mv (hZ.mv hk)
    have hS := WS.init (h.mv hk.mvo)
    have hla := ha.len'
    apply ok_coder_List_int; unfold vc_coder_List_int
    have hs := hS.s
    repeat' first | with_reducible apply r_nil | ((with_reducible apply m_ld1); (· exact qF); (· exact qM); (· kernel_rfl); (· rfl)) | ((with_reducible apply m_lnS); (· exact qO); (· kernel_rfl))
    refine jn_by (fun (k : Value → World → XS → Prop) => ∀ w X vb2, WS w0 vb w X lo wb vb2 (bs ++ encI xs.length) → k (I xs.length) w X) ?_ ?_
    · intro w X vb2 hS2
      refine lp1_of (fun n' a w X => ∃ (i : Nat) (vbi : Value), a = I i ∧ n' = xs.length - i ∧ i ≤ xs.length ∧ WS w0 vb w X lo wb vbi (bs ++ encI xs.length ++ ((xs.take i).map encI).flatten)) xs.length ⟨0, vb2, rfl, rfl, Nat.zero_le _, by simpa using hS2⟩ ?_
      clear hS2 hS hs
      rintro n' a w X ⟨i, vbi, rfl, rfl, hi, hS⟩
      have hs := hS.s
      rcases at_or xs i with ⟨hlt, x, hxi, hd⟩ | ⟨hge, hd⟩
      · have hbx := encL_at (f := encI) hxi
        repeat' first | ((with_reducible refine r_lssT ?_ ?_); (· omega)) | with_reducible apply condW_T
        refine jn_by (fun (k : World → XS → Prop) => k w X) ?_ ?_
        · repeat' first | with_reducible apply r_nil | ((with_reducible apply m_ld1); (· exact qF); (· exact qM); (· kernel_rfl); (· rfl)) | ((with_reducible apply m_ixS); (· exact qO); (try (case hz => rfl)); (case hr => exact qR); (try (case hz => omega)); (case ht => kernel_rfl); (case hs => kernel_rfl); intro _ _ _)
          refine m_fun1 ?_
          refine hS.puts (d_coder_Int (n := x) hS.r (hc.mv hS.at) (Cells.mv (by assumption) hS.at) hS.z (by simp only [List.length_append]; omega) (Nat.le_trans hlo0 hs.kp.size)) (by kernel_rfl) fun vb3 w3 X3 hS3 hc3 => ?_
          replace hs := hS3.s
          repeat' first | ((with_reducible apply r_add); (· omega); (· omega))
          refine nx1_of (xs.length - (i + 1)) (by omega) ⟨i + 1, vb3, by simp, rfl, by omega, ?_⟩
          rw [flat_take hxi, ← List.append_assoc]; exact hS3
        · intro K hK
          repeat' first | with_reducible (first | apply condW_F | apply r_nil) | ((with_reducible apply m_fld1); (· exact qF); (· kernel_rfl); (· rfl); intro _ _ _) | ((with_reducible apply m_ld1); (· exact qF); (· exact qM); (· kernel_rfl); (· rfl)) | ((with_reducible apply m_pnilF); (· kernel_rfl)) | exact hK
      · rw [List.take_of_length_le hge] at hS
        repeat' first | ((with_reducible refine r_lssF ?_ ?_); (· omega)) | with_reducible apply condW_F
        rw [List.append_assoc] at hS
        exact hS.fin
    · intro K hK
      repeat' first | with_reducible (first | apply condW_T | apply r_nil) | ((with_reducible apply m_fld1); (· exact qF); (· kernel_rfl); (· rfl); intro _ _ _) | ((with_reducible apply m_ld1); (· exact qF); (· exact qM); (· kernel_rfl); (· rfl)) | ((with_reducible apply m_pneF); (· kernel_rfl))
      refine hS.puts (d_wire_Int hS.r (by omega) hlo0) (by kernel_rfl) fun vb2 w2 X2 hS2 hc2 => ?_
      replace hs := hS2.s
      skip
      exact hK _ _ _ hS2
theorem d_coder_ListW {w : World} {X Z : XS} {lo wb cb xb xo : Nat} {vb va : Value} {bs : List Nat} {xs : List KV} (h : Wr w X lo wb vb bs) (hc : Cells w Z cb 0 (coderL wb)) (hx : Cells w Z xb xo [va]) (ha : Sl w Z 4 va (xs.map KV.l)) (hZ : Zok Z X wb vb) (hlo : lo ≤ w.heap.size) (hb : bs.length + (encL encKV xs).length ≤ 2 ^ 33) :
    Puts 150 #[ptr cb 0, ptr xb xo, .func (.func 151) #[ptr cb 0] #[]] w X lo wb vb bs (encL encKV xs) := by
    intro w0 hk
    have hlo0 : lo ≤ w0.heap.size := Nat.le_trans hlo hk.size
    replace hc := hc.mv (hZ.mv hk)
    replace hx := hx.mv (hZ.mv hk)
    replace ha := ha.mv (hZ.mv hk)
    have hS := WS.init (h.mv hk.mvo)
    have hla := ha.len'
    apply ok_coder_List_api_Write; unfold vc_coder_List_api_Write
    have hs := hS.s
    repeat' first | with_reducible apply r_nil | ((with_reducible apply m_ld1); (· exact qF); (· exact qM); (· kernel_rfl); (· rfl)) | ((with_reducible apply m_lnS); (· exact qO); (· kernel_rfl))
    refine jn_by (fun (k : Value → World → XS → Prop) => ∀ w X vb2, WS w0 vb w X lo wb vb2 (bs ++ encI xs.length) → k (I xs.length) w X) ?_ ?_
    · intro w X vb2 hS2
      refine lp1_of (fun n' a w X => ∃ (i : Nat) (vbi : Value), a = I i ∧ n' = xs.length - i ∧ i ≤ xs.length ∧ WS w0 vb w X lo wb vbi (bs ++ encI xs.length ++ ((xs.take i).map encKV).flatten)) xs.length ⟨0, vb2, rfl, rfl, Nat.zero_le _, by simpa using hS2⟩ ?_
      clear hS2 hS hs
      rintro n' a w X ⟨i, vbi, rfl, rfl, hi, hS⟩
      have hs := hS.s
      rcases at_or xs i with ⟨hlt, x, hxi, hd⟩ | ⟨hge, hd⟩
      · have hbx := encL_at (f := encKV) hxi
        repeat' first | ((with_reducible refine r_lssT ?_ ?_); (· omega)) | with_reducible apply condW_T
        refine jn_by (fun (k : World → XS → Prop) => k w X) ?_ ?_
        · repeat' first | with_reducible apply r_nil | ((with_reducible apply m_ld1); (· exact qF); (· exact qM); (· kernel_rfl); (· rfl)) | ((with_reducible apply m_ixS); (· exact qO); (try (case hz => rfl)); (case hr => exact qR); (try (case hz => omega)); (case ht => kernel_rfl); (case hs => kernel_rfl); intro _ _ _)
          refine m_fun1 ?_
          refine hS.puts (d_coder_Write (x := x) hS.r (hc.mv hS.at) (Cells.mv (by assumption) hS.at) hS.z (by simp only [List.length_append]; omega) (Nat.le_trans hlo0 hs.kp.size) (by have := encKV_key x; omega)) (by kernel_rfl) fun vb3 w3 X3 hS3 hc3 => ?_
          replace hs := hS3.s
          repeat' first | ((with_reducible apply r_add); (· omega); (· omega))
          refine nx1_of (xs.length - (i + 1)) (by omega) ⟨i + 1, vb3, by simp, rfl, by omega, ?_⟩
          rw [flat_take hxi, ← List.append_assoc]; exact hS3
        · intro K hK
          repeat' first | with_reducible (first | apply condW_F | apply r_nil) | ((with_reducible apply m_fld1); (· exact qF); (· kernel_rfl); (· rfl); intro _ _ _) | ((with_reducible apply m_ld1); (· exact qF); (· exact qM); (· kernel_rfl); (· rfl)) | ((with_reducible apply m_pnilF); (· kernel_rfl)) | exact hK
      · rw [List.take_of_length_le hge] at hS
        repeat' first | ((with_reducible refine r_lssF ?_ ?_); (· omega)) | with_reducible apply condW_F
        rw [List.append_assoc] at hS
        exact hS.fin
    · intro K hK
      repeat' first | with_reducible (first | apply condW_T | apply r_nil) | ((with_reducible apply m_fld1); (· exact qF); (· kernel_rfl); (· rfl); intro _ _ _) | ((with_reducible apply m_ld1); (· exact qF); (· exact qM); (· kernel_rfl); (· rfl)) | ((with_reducible apply m_pneF); (· kernel_rfl))
      refine hS.puts (d_wire_Int hS.r (by omega) hlo0) (by kernel_rfl) fun vb2 w2 X2 hS2 hc2 => ?_
      replace hs := hS2.s
      skip
      exact hK _ _ _ hS2
theorem d_coder_ListP {w : World} {X Z : XS} {lo wb cb xb xo : Nat} {vb va : Value} {bs : List Nat} {xs : List KV} (h : Wr w X lo wb vb bs) (hc : Cells w Z cb 0 (coderL wb)) (hx : Cells w Z xb xo [va]) (ha : Sl w Z 4 va (xs.map KV.l)) (hZ : Zok Z X wb vb) (hlo : lo ≤ w.heap.size) (hb : bs.length + (encL encKV xs).length ≤ 2 ^ 33) :
    Puts 152 #[ptr cb 0, ptr xb xo, .func (.func 153) #[ptr cb 0] #[]] w X lo wb vb bs (encL encKV xs) := by
    intro w0 hk
    have hlo0 : lo ≤ w0.heap.size := Nat.le_trans hlo hk.size
    replace hc := hc.mv (hZ.mv hk)
    replace hx := hx.mv (hZ.mv hk)
    replace ha := ha.mv (hZ.mv hk)
    have hS := WS.init (h.mv hk.mvo)
    have hla := ha.len'
    apply ok_coder_List_api_Pair; unfold vc_coder_List_api_Pair
    have hs := hS.s
    repeat' first | with_reducible apply r_nil | ((with_reducible apply m_ld1); (· exact qF); (· exact qM); (· kernel_rfl); (· rfl)) | ((with_reducible apply m_lnS); (· exact qO); (· kernel_rfl))
    refine jn_by (fun (k : Value → World → XS → Prop) => ∀ w X vb2, WS w0 vb w X lo wb vb2 (bs ++ encI xs.length) → k (I xs.length) w X) ?_ ?_
    · intro w X vb2 hS2
      refine lp1_of (fun n' a w X => ∃ (i : Nat) (vbi : Value), a = I i ∧ n' = xs.length - i ∧ i ≤ xs.length ∧ WS w0 vb w X lo wb vbi (bs ++ encI xs.length ++ ((xs.take i).map encKV).flatten)) xs.length ⟨0, vb2, rfl, rfl, Nat.zero_le _, by simpa using hS2⟩ ?_
      clear hS2 hS hs
      rintro n' a w X ⟨i, vbi, rfl, rfl, hi, hS⟩
      have hs := hS.s
      rcases at_or xs i with ⟨hlt, x, hxi, hd⟩ | ⟨hge, hd⟩
      · have hbx := encL_at (f := encKV) hxi
        repeat' first | ((with_reducible refine r_lssT ?_ ?_); (· omega)) | with_reducible apply condW_T
        refine jn_by (fun (k : World → XS → Prop) => k w X) ?_ ?_
        · repeat' first | with_reducible apply r_nil | ((with_reducible apply m_ld1); (· exact qF); (· exact qM); (· kernel_rfl); (· rfl)) | ((with_reducible apply m_ixS); (· exact qO); (try (case hz => rfl)); (case hr => exact qR); (try (case hz => omega)); (case ht => kernel_rfl); (case hs => kernel_rfl); intro _ _ _)
          refine m_fun1 ?_
          refine hS.puts (d_coder_Pair (x := x) hS.r (hc.mv hS.at) (Cells.mv (by assumption) hS.at) hS.z (by simp only [List.length_append]; omega) (Nat.le_trans hlo0 hs.kp.size) (by have := encKV_key x; omega)) (by kernel_rfl) fun vb3 w3 X3 hS3 hc3 => ?_
          replace hs := hS3.s
          repeat' first | ((with_reducible apply r_add); (· omega); (· omega))
          refine nx1_of (xs.length - (i + 1)) (by omega) ⟨i + 1, vb3, by simp, rfl, by omega, ?_⟩
          rw [flat_take hxi, ← List.append_assoc]; exact hS3
        · intro K hK
          repeat' first | with_reducible (first | apply condW_F | apply r_nil) | ((with_reducible apply m_fld1); (· exact qF); (· kernel_rfl); (· rfl); intro _ _ _) | ((with_reducible apply m_ld1); (· exact qF); (· exact qM); (· kernel_rfl); (· rfl)) | ((with_reducible apply m_pnilF); (· kernel_rfl)) | exact hK
      · rw [List.take_of_length_le hge] at hS
        repeat' first | ((with_reducible refine r_lssF ?_ ?_); (· omega)) | with_reducible apply condW_F
        rw [List.append_assoc] at hS
        exact hS.fin
    · intro K hK
      repeat' first | with_reducible (first | apply condW_T | apply r_nil) | ((with_reducible apply m_fld1); (· exact qF); (· kernel_rfl); (· rfl); intro _ _ _) | ((with_reducible apply m_ld1); (· exact qF); (· exact qM); (· kernel_rfl); (· rfl)) | ((with_reducible apply m_pneF); (· kernel_rfl))
      refine hS.puts (d_wire_Int hS.r (by omega) hlo0) (by kernel_rfl) fun vb2 w2 X2 hS2 hc2 => ?_
      replace hs := hS2.s
      skip
      exact hK _ _ _ hS2
theorem d_coder_ListVer {w : World} {X Z : XS} {lo wb cb xb xo : Nat} {vb va : Value} {bs : List Nat} {xs : List Ver} (h : Wr w X lo wb vb bs) (hc : Cells w Z cb 0 (coderL wb)) (hx : Cells w Z xb xo [va]) (ha : Sl w Z 6 va (xs.map Ver.l)) (hZ : Zok Z X wb vb) (hlo : lo ≤ w.heap.size) (hb : bs.length + (encL encVer xs).length ≤ 2 ^ 33) :
    Puts 289 #[ptr cb 0, ptr xb xo, .func (.func 290) #[ptr cb 0] #[]] w X lo wb vb bs (encL encVer xs) := by
    intro w0 hk
    have hlo0 : lo ≤ w0.heap.size := Nat.le_trans hlo hk.size
    replace hc := hc.mv (hZ.mv hk)
    replace hx := hx.mv (hZ.mv hk)
    replace ha := ha.mv (hZ.mv hk)
    have hS := WS.init (h.mv hk.mvo)
    have hla := ha.len'
    apply ok_coder_List_api_Version; unfold vc_coder_List_api_Version
    have hs := hS.s
    repeat' first | with_reducible apply r_nil | ((with_reducible apply m_ld1); (· exact qF); (· exact qM); (· kernel_rfl); (· rfl)) | ((with_reducible apply m_lnS); (· exact qO); (· kernel_rfl))
    refine jn_by (fun (k : Value → World → XS → Prop) => ∀ w X vb2, WS w0 vb w X lo wb vb2 (bs ++ encI xs.length) → k (I xs.length) w X) ?_ ?_
    · intro w X vb2 hS2
      refine lp1_of (fun n' a w X => ∃ (i : Nat) (vbi : Value), a = I i ∧ n' = xs.length - i ∧ i ≤ xs.length ∧ WS w0 vb w X lo wb vbi (bs ++ encI xs.length ++ ((xs.take i).map encVer).flatten)) xs.length ⟨0, vb2, rfl, rfl, Nat.zero_le _, by simpa using hS2⟩ ?_
      clear hS2 hS hs
      rintro n' a w X ⟨i, vbi, rfl, rfl, hi, hS⟩
      have hs := hS.s
      rcases at_or xs i with ⟨hlt, x, hxi, hd⟩ | ⟨hge, hd⟩
      · have hbx := encL_at (f := encVer) hxi
        repeat' first | ((with_reducible refine r_lssT ?_ ?_); (· omega)) | with_reducible apply condW_T
        refine jn_by (fun (k : World → XS → Prop) => k w X) ?_ ?_
        · repeat' first | with_reducible apply r_nil | ((with_reducible apply m_ld1); (· exact qF); (· exact qM); (· kernel_rfl); (· rfl)) | ((with_reducible apply m_ixS); (· exact qO); (try (case hz => rfl)); (case hr => exact qR); (try (case hz => omega)); (case ht => kernel_rfl); (case hs => kernel_rfl); intro _ _ _)
          refine m_fun1 ?_
          refine hS.puts (d_coder_version (x := x) hS.r (hc.mv hS.at) (Cells.mv (by assumption) hS.at) hS.z (by simp only [List.length_append]; omega) (Nat.le_trans hlo0 hs.kp.size)) (by kernel_rfl) fun vb3 w3 X3 hS3 hc3 => ?_
          replace hs := hS3.s
          repeat' first | ((with_reducible apply r_add); (· omega); (· omega))
          refine nx1_of (xs.length - (i + 1)) (by omega) ⟨i + 1, vb3, by simp, rfl, by omega, ?_⟩
          rw [flat_take hxi, ← List.append_assoc]; exact hS3
        · intro K hK
          repeat' first | with_reducible (first | apply condW_F | apply r_nil) | ((with_reducible apply m_fld1); (· exact qF); (· kernel_rfl); (· rfl); intro _ _ _) | ((with_reducible apply m_ld1); (· exact qF); (· exact qM); (· kernel_rfl); (· rfl)) | ((with_reducible apply m_pnilF); (· kernel_rfl)) | exact hK
      · rw [List.take_of_length_le hge] at hS
        repeat' first | ((with_reducible refine r_lssF ?_ ?_); (· omega)) | with_reducible apply condW_F
        rw [List.append_assoc] at hS
        exact hS.fin
    · intro K hK
      repeat' first | with_reducible (first | apply condW_T | apply r_nil) | ((with_reducible apply m_fld1); (· exact qF); (· kernel_rfl); (· rfl); intro _ _ _) | ((with_reducible apply m_ld1); (· exact qF); (· exact qM); (· kernel_rfl); (· rfl)) | ((with_reducible apply m_pneF); (· kernel_rfl))
      refine hS.puts (d_wire_Int hS.r (by omega) hlo0) (by kernel_rfl) fun vb2 w2 X2 hS2 hc2 => ?_
      replace hs := hS2.s
      skip
      exact hK _ _ _ hS2
theorem d_coder_history {w : World} {X Z : XS} {lo wb cb xb xo : Nat} {vb vv : Value} {bs : List Nat} {x : Hist} (h : Wr w X lo wb vb bs) (hc : Cells w Z cb 0 (coderL wb)) (hx : Cells w Z xb xo (x.l vv)) (ha : Sl w Z 6 vv (x.vers.map Ver.l)) (hZ : Zok Z X wb vb) (hlo : lo ≤ w.heap.size) (hb : bs.length + (encH x).length ≤ 2 ^ 33) :
    Puts 211 #[ptr cb 0, ptr xb xo] w X lo wb vb bs (encH x) := by
  have e1 : (encH x).length = (encT x.key).length + (encL encVer x.vers).length := by simp [encH]
  have e2 := encT_len x.key
  replace ha := fun {w1 : World} (hk : Kp X w w1) => ha.mv (hZ.mv hk)
  intro w0 hk
  have hlo0 : lo ≤ w0.heap.size := Nat.le_trans hlo hk.size
  replace hc := hc.mv (hZ.mv hk)
  replace hx := hx.mv (hZ.mv hk)
  have hS := WS.init (h.mv hk.mvo)
  apply ok_coder_Coder_history; unfold vc_coder_Coder_history
  have hs := hS.s
  replace ha := ha hk
  have ov := ha.one
  repeat' first | with_reducible apply r_nil | ((with_reducible apply m_fld1); (· exact qF); (· kernel_rfl); (· rfl); intro _ _ _)
  refine hS.puts (d_coder_Text hS.r (hc.mv hS.at) (Cells.mv (by assumption) hS.at) hS.z (by omega) hlo0 (by omega)) (by kernel_rfl) fun vb2 w X hS2 _ => ?_
  replace hs := hS2.s
  repeat' first | with_reducible apply r_nil | ((with_reducible apply m_fld1); (· exact qF); (· kernel_rfl); (· rfl); intro _ _ _) | (with_reducible apply m_mkFun)
  refine hS2.puts (d_coder_ListVer hS2.r (hc.mv hS2.at) (Cells.mv (by assumption) hS2.at) (ha.mv hS2.at) hS2.z (Nat.le_trans hlo0 hs.kp.size) (by simp only [List.length_append]; omega)) (by kernel_rfl) fun vb3 w X hS3 _ => ?_
  skip
  unfold encH
  simp only [List.append_assoc] at hS3
  exact hS3.fin
theorem d_coder_Pending {w : World} {X Z : XS} {lo wb cb xb xo : Nat} {vb vr vw : Value} {bs : List Nat} {x : Pend} (h : Wr w X lo wb vb bs) (hc : Cells w Z cb 0 (coderL wb)) (hx : Cells w Z xb xo (x.l vr vw)) (h1 : Sl w Z 1 vr (x.reads.map S1)) (h2 : Sl w Z 4 vw (x.writes.map KV.l)) (hZ : Zok Z X wb vb) (hlo : lo ≤ w.heap.size) (hb : bs.length + (encP x).length ≤ 2 ^ 33) :
    Puts 144 #[ptr cb 0, ptr xb xo] w X lo wb vb bs (encP x) := by
  have e1 : (encP x).length = (encTx x.txn).length + ((encSt x.stamp).length + ((encL encT x.reads).length + (encL encKV x.writes).length)) := by simp [encP]
  replace h1 := fun {w1 : World} (hk : Kp X w w1) => h1.mv (hZ.mv hk)
  replace h2 := fun {w1 : World} (hk : Kp X w w1) => h2.mv (hZ.mv hk)
  intro w0 hk
  have hlo0 : lo ≤ w0.heap.size := Nat.le_trans hlo hk.size
  replace hc := hc.mv (hZ.mv hk)
  replace hx := hx.mv (hZ.mv hk)
  have hS := WS.init (h.mv hk.mvo)
  apply ok_coder_Coder_Pending; unfold vc_coder_Coder_Pending
  have hs := hS.s
  replace h1 := h1 hk
  replace h2 := h2 hk
  have o1 := h1.one
  have o2 := h2.one
  repeat' first | with_reducible apply r_nil | ((with_reducible apply m_fld); (· exact qF); (· kernel_rfl); (· rfl); (· exact qN); intro _ _ _)
  refine hS.puts (d_coder_Txn (s := x.txn) hS.r (hc.mv hS.at) (Cells.mv (by assumption) hS.at) hS.z (by (try simp only [List.length_append]); omega) (Nat.le_trans hlo0 hs.kp.size)) (by kernel_rfl) fun vb2 w X hS2 _ => ?_
  replace hs := hS2.s
  repeat' first | with_reducible apply r_nil | ((with_reducible apply m_fld); (· exact qF); (· kernel_rfl); (· rfl); (· exact qN); intro _ _ _)
  refine hS2.puts (d_coder_Stamp (s := x.stamp) hS2.r (hc.mv hS2.at) (Cells.mv (by assumption) hS2.at) hS2.z (by (try simp only [List.length_append]); omega) (Nat.le_trans hlo0 hs.kp.size)) (by kernel_rfl) fun vb3 w X hS3 _ => ?_
  replace hs := hS3.s
  repeat' first | with_reducible apply r_nil | ((with_reducible apply m_fld1); (· exact qF); (· kernel_rfl); (· rfl); intro _ _ _) | (with_reducible apply m_mkFun)
  refine hS3.puts (d_coder_ListText hS3.r (hc.mv hS3.at) (Cells.mv (by assumption) hS3.at) (h1.mv hS3.at) hS3.z (Nat.le_trans hlo0 hs.kp.size) (by simp only [List.length_append]; omega)) (by kernel_rfl) fun vb4 w X hS4 _ => ?_
  replace hs := hS4.s
  repeat' first | with_reducible apply r_nil | ((with_reducible apply m_fld1); (· exact qF); (· kernel_rfl); (· rfl); intro _ _ _) | (with_reducible apply m_mkFun)
  refine hS4.puts (d_coder_ListW hS4.r (hc.mv hS4.at) (Cells.mv (by assumption) hS4.at) (h2.mv hS4.at) hS4.z (Nat.le_trans hlo0 hs.kp.size) (by simp only [List.length_append]; omega)) (by kernel_rfl) fun vb5 w X hS5 _ => ?_
  skip
  unfold encP
  simp only [List.append_assoc] at hS5
  exact hS5.fin
theorem d_coder_ListHist {w : World} {X Z : XS} {lo wb cb xb xo : Nat} {vb va : Value} {bs : List Nat} {xs : List Hist} (h : Wr w X lo wb vb bs) (hc : Cells w Z cb 0 (coderL wb)) (hx : Cells w Z xb xo [va]) (ha : Hists w Z va xs) (hZ : Zok Z X wb vb) (hlo : lo ≤ w.heap.size) (hb : bs.length + (encL encH xs).length ≤ 2 ^ 33) :
    Puts 210 #[ptr cb 0, ptr xb xo, .func (.func 211) #[ptr cb 0] #[]] w X lo wb vb bs (encL encH xs) := by
    intro w0 hk
    have hlo0 : lo ≤ w0.heap.size := Nat.le_trans hlo hk.size
    replace hc := hc.mv (hZ.mv hk)
    replace hx := hx.mv (hZ.mv hk)
    replace ha := ha.mv (hZ.mv hk)
    have hS := WS.init (h.mv hk.mvo)
    have hla := Rws.len ha
    apply ok_coder_List_api_History; unfold vc_coder_List_api_History
    have hs := hS.s
    repeat' first | with_reducible apply r_nil | ((with_reducible apply m_ld1); (· exact qF); (· exact qM); (· kernel_rfl); (· rfl)) | ((with_reducible apply m_lnR); (· assumption); (· kernel_rfl))
    refine jn_by (fun (k : Value → World → XS → Prop) => ∀ w X vb2, WS w0 vb w X lo wb vb2 (bs ++ encI xs.length) → k (I xs.length) w X) ?_ ?_
    · intro w X vb2 hS2
      refine lp1_of (fun n' a w X => ∃ (i : Nat) (vbi : Value), a = I i ∧ n' = xs.length - i ∧ i ≤ xs.length ∧ WS w0 vb w X lo wb vbi (bs ++ encI xs.length ++ ((xs.take i).map encH).flatten)) xs.length ⟨0, vb2, rfl, rfl, Nat.zero_le _, by simpa using hS2⟩ ?_
      clear hS2 hS hs
      rintro n' a w X ⟨i, vbi, rfl, rfl, hi, hS⟩
      have hs := hS.s
      rcases at_or xs i with ⟨hlt, x, hxi, hd⟩ | ⟨hge, hd⟩
      · have hbx := encL_at (f := encH) hxi
        repeat' first | ((with_reducible refine r_lssT ?_ ?_); (· omega)) | with_reducible apply condW_T
        refine jn_by (fun (k : World → XS → Prop) => k w X) ?_ ?_
        · repeat' first | with_reducible apply r_nil | ((with_reducible apply m_ld1); (· exact qF); (· exact qM); (· kernel_rfl); (· rfl)) | ((with_reducible apply m_ixH); (· assumption); (try (case hz => rfl)); (case hr => exact qR); (try (case hz => omega)); (case ht => kernel_rfl); (case hs => kernel_rfl); intros)
          refine m_fun1 ?_
          refine hS.puts (d_coder_history (x := x) hS.r (hc.mv hS.at) (Cells.mv (by assumption) hS.at) (Sl.mv (by assumption) hS.at) hS.z (Nat.le_trans hlo0 hs.kp.size) (by simp only [List.length_append]; omega)) (by kernel_rfl) fun vb3 w3 X3 hS3 hc3 => ?_
          replace hs := hS3.s
          repeat' first | ((with_reducible apply r_add); (· omega); (· omega))
          refine nx1_of (xs.length - (i + 1)) (by omega) ⟨i + 1, vb3, by simp, rfl, by omega, ?_⟩
          rw [flat_take hxi, ← List.append_assoc]; exact hS3
        · intro K hK
          repeat' first | with_reducible (first | apply condW_F | apply r_nil) | ((with_reducible apply m_fld1); (· exact qF); (· kernel_rfl); (· rfl); intro _ _ _) | ((with_reducible apply m_ld1); (· exact qF); (· exact qM); (· kernel_rfl); (· rfl)) | ((with_reducible apply m_pnilF); (· kernel_rfl)) | exact hK
      · rw [List.take_of_length_le hge] at hS
        repeat' first | ((with_reducible refine r_lssF ?_ ?_); (· omega)) | with_reducible apply condW_F
        rw [List.append_assoc] at hS
        exact hS.fin
    · intro K hK
      repeat' first | with_reducible (first | apply condW_T | apply r_nil) | ((with_reducible apply m_fld1); (· exact qF); (· kernel_rfl); (· rfl); intro _ _ _) | ((with_reducible apply m_ld1); (· exact qF); (· exact qM); (· kernel_rfl); (· rfl)) | ((with_reducible apply m_pneF); (· kernel_rfl))
      refine hS.puts (d_wire_Int hS.r (by omega) hlo0) (by kernel_rfl) fun vb2 w2 X2 hS2 hc2 => ?_
      replace hs := hS2.s
      skip
      exact hK _ _ _ hS2
theorem d_coder_ListPend {w : World} {X Z : XS} {lo wb cb xb xo : Nat} {vb va : Value} {bs : List Nat} {xs : List Pend} (h : Wr w X lo wb vb bs) (hc : Cells w Z cb 0 (coderL wb)) (hx : Cells w Z xb xo [va]) (ha : Pends w Z va xs) (hZ : Zok Z X wb vb) (hlo : lo ≤ w.heap.size) (hb : bs.length + (encL encP xs).length ≤ 2 ^ 33) :
    Puts 212 #[ptr cb 0, ptr xb xo, .func (.func 144) #[ptr cb 0] #[]] w X lo wb vb bs (encL encP xs) := by
    intro w0 hk
    have hlo0 : lo ≤ w0.heap.size := Nat.le_trans hlo hk.size
    replace hc := hc.mv (hZ.mv hk)
    replace hx := hx.mv (hZ.mv hk)
    replace ha := ha.mv (hZ.mv hk)
    have hS := WS.init (h.mv hk.mvo)
    have hla := Rws.len ha
    apply ok_coder_List_api_Pending; unfold vc_coder_List_api_Pending
    have hs := hS.s
    repeat' first | with_reducible apply r_nil | ((with_reducible apply m_ld1); (· exact qF); (· exact qM); (· kernel_rfl); (· rfl)) | ((with_reducible apply m_lnR); (· assumption); (· kernel_rfl))
    refine jn_by (fun (k : Value → World → XS → Prop) => ∀ w X vb2, WS w0 vb w X lo wb vb2 (bs ++ encI xs.length) → k (I xs.length) w X) ?_ ?_
    · intro w X vb2 hS2
      refine lp1_of (fun n' a w X => ∃ (i : Nat) (vbi : Value), a = I i ∧ n' = xs.length - i ∧ i ≤ xs.length ∧ WS w0 vb w X lo wb vbi (bs ++ encI xs.length ++ ((xs.take i).map encP).flatten)) xs.length ⟨0, vb2, rfl, rfl, Nat.zero_le _, by simpa using hS2⟩ ?_
      clear hS2 hS hs
      rintro n' a w X ⟨i, vbi, rfl, rfl, hi, hS⟩
      have hs := hS.s
      rcases at_or xs i with ⟨hlt, x, hxi, hd⟩ | ⟨hge, hd⟩
      · have hbx := encL_at (f := encP) hxi
        repeat' first | ((with_reducible refine r_lssT ?_ ?_); (· omega)) | with_reducible apply condW_T
        refine jn_by (fun (k : World → XS → Prop) => k w X) ?_ ?_
        · repeat' first | with_reducible apply r_nil | ((with_reducible apply m_ld1); (· exact qF); (· exact qM); (· kernel_rfl); (· rfl)) | ((with_reducible apply m_ixP); (· assumption); (try (case hz => rfl)); (case hr => exact qR); (try (case hz => omega)); (case ht => kernel_rfl); (case hs => kernel_rfl); intros)
          refine m_fun1 ?_
          refine hS.puts (d_coder_Pending (x := x) hS.r (hc.mv hS.at) (Cells.mv (by assumption) hS.at) (Sl.mv (by assumption) hS.at) (Sl.mv (by assumption) hS.at) hS.z (Nat.le_trans hlo0 hs.kp.size) (by simp only [List.length_append]; omega)) (by kernel_rfl) fun vb3 w3 X3 hS3 hc3 => ?_
          replace hs := hS3.s
          repeat' first | ((with_reducible apply r_add); (· omega); (· omega))
          refine nx1_of (xs.length - (i + 1)) (by omega) ⟨i + 1, vb3, by simp, rfl, by omega, ?_⟩
          rw [flat_take hxi, ← List.append_assoc]; exact hS3
        · intro K hK
          repeat' first | with_reducible (first | apply condW_F | apply r_nil) | ((with_reducible apply m_fld1); (· exact qF); (· kernel_rfl); (· rfl); intro _ _ _) | ((with_reducible apply m_ld1); (· exact qF); (· exact qM); (· kernel_rfl); (· rfl)) | ((with_reducible apply m_pnilF); (· kernel_rfl)) | exact hK
      · rw [List.take_of_length_le hge] at hS
        repeat' first | ((with_reducible refine r_lssF ?_ ?_); (· omega)) | with_reducible apply condW_F
        rw [List.append_assoc] at hS
        exact hS.fin
    · intro K hK
      repeat' first | with_reducible (first | apply condW_T | apply r_nil) | ((with_reducible apply m_fld1); (· exact qF); (· kernel_rfl); (· rfl); intro _ _ _) | ((with_reducible apply m_ld1); (· exact qF); (· exact qM); (· kernel_rfl); (· rfl)) | ((with_reducible apply m_pneF); (· kernel_rfl))
      refine hS.puts (d_wire_Int hS.r (by omega) hlo0) (by kernel_rfl) fun vb2 w2 X2 hS2 hc2 => ?_
      replace hs := hS2.s
      skip
      exact hK _ _ _ hS2
theorem d_coder_State {w : World} {X Z : XS} {lo wb cb xb xo : Nat} {vb vh vp : Value} {bs : List Nat} {x : State} (h : Wr w X lo wb vb bs) (hc : Cells w Z cb 0 (coderL wb)) (hx : Cells w Z xb xo (x.l vh vp)) (h1 : Hists w Z vh x.hists) (h2 : Pends w Z vp x.pend) (hZ : Zok Z X wb vb) (hlo : lo ≤ w.heap.size) (hb : bs.length + (encS x).length ≤ 2 ^ 33) :
    Puts 143 #[ptr cb 0, ptr xb xo] w X lo wb vb bs (encS x) := by
  have e1 : (encS x).length = (encRg x.range).length + ((encSt x.floor).length + ((encSt x.closed).length + ((encL encH x.hists).length + (encL encP x.pend).length))) := by simp [encS]
  replace h1 := fun {w1 : World} (hk : Kp X w w1) => Hists.mv h1 (hZ.mv hk)
  replace h2 := fun {w1 : World} (hk : Kp X w w1) => Pends.mv h2 (hZ.mv hk)
  intro w0 hk
  have hlo0 : lo ≤ w0.heap.size := Nat.le_trans hlo hk.size
  replace hc := hc.mv (hZ.mv hk)
  replace hx := hx.mv (hZ.mv hk)
  have hS := WS.init (h.mv hk.mvo)
  apply ok_coder_Coder_State; unfold vc_coder_Coder_State
  have hs := hS.s
  replace h1 := h1 hk
  replace h2 := h2 hk
  have o1 := h1.one
  have o2 := h2.one
  repeat' first | with_reducible apply r_nil | ((with_reducible apply m_fld); (· exact qF); (· kernel_rfl); (· rfl); (· exact qN); intro _ _ _)
  refine hS.puts (d_coder_Range (r := x.range) hS.r (hc.mv hS.at) (Cells.mv (by assumption) hS.at) hS.z (by (try simp only [List.length_append]); omega) (Nat.le_trans hlo0 hs.kp.size)) (by kernel_rfl) fun vb2 w X hS2 _ => ?_
  replace hs := hS2.s
  repeat' first | with_reducible apply r_nil | ((with_reducible apply m_fld); (· exact qF); (· kernel_rfl); (· rfl); (· exact qN); intro _ _ _)
  refine hS2.puts (d_coder_Stamp (s := x.floor) hS2.r (hc.mv hS2.at) (Cells.mv (by assumption) hS2.at) hS2.z (by (try simp only [List.length_append]); omega) (Nat.le_trans hlo0 hs.kp.size)) (by kernel_rfl) fun vb3 w X hS3 _ => ?_
  replace hs := hS3.s
  repeat' first | with_reducible apply r_nil | ((with_reducible apply m_fld); (· exact qF); (· kernel_rfl); (· rfl); (· exact qN); intro _ _ _)
  refine hS3.puts (d_coder_Stamp (s := x.closed) hS3.r (hc.mv hS3.at) (Cells.mv (by assumption) hS3.at) hS3.z (by (try simp only [List.length_append]); omega) (Nat.le_trans hlo0 hs.kp.size)) (by kernel_rfl) fun vb4 w X hS4 _ => ?_
  replace hs := hS4.s
  repeat' first | with_reducible apply r_nil | ((with_reducible apply m_fld1); (· exact qF); (· kernel_rfl); (· rfl); intro _ _ _) | (with_reducible apply m_mkFun)
  refine hS4.puts (d_coder_ListHist hS4.r (hc.mv hS4.at) (Cells.mv (by assumption) hS4.at) (h1.mv hS4.at) hS4.z (Nat.le_trans hlo0 hs.kp.size) (by simp only [List.length_append]; omega)) (by kernel_rfl) fun vb5 w X hS5 _ => ?_
  replace hs := hS5.s
  repeat' first | with_reducible apply r_nil | ((with_reducible apply m_fld1); (· exact qF); (· kernel_rfl); (· rfl); intro _ _ _) | (with_reducible apply m_mkFun)
  refine hS5.puts (d_coder_ListPend hS5.r (hc.mv hS5.at) (Cells.mv (by assumption) hS5.at) (h2.mv hS5.at) hS5.z (Nat.le_trans hlo0 hs.kp.size) (by simp only [List.length_append]; omega)) (by kernel_rfl) fun vb6 w X hS6 _ => ?_
  skip
  unfold encS
  simp only [List.append_assoc] at hS6
  exact hS6.fin
end Go.Proofs.YtpdkoaklobnegaaGreat
namespace Go.Proofs.YtpdkoaklobnegaaGreat
open Go.Eng
set_option maxRecDepth 100000
set_option maxHeartbeats 1000000
set_option linter.unusedVariables false
set_option linter.unusedSimpArgs false
attribute [local irreducible] un jn chk fld ld1 ldA st1 ixS lnS lnT bld cvI cvF ixA bsS apS rdV rdW grdW eW eV eU eC eF gE condW fin pickN nilN binS vS lp0 lp1 lp2 lp3 lp4 lp5 lp6 lp7 nx0 nx1 nx2 nx3 nx4 nx5 nx6 nx7
def encR (r : Rec) : List Nat := encI r.kind ++ (
  if r.kind = 1 then encS r.state
  else if r.kind = 2 ∨ r.kind = 7 ∨ r.kind = 8 then encI r.n
  else if r.kind = 3 then encP ⟨r.txn, r.stamp, r.reads, r.writes⟩ ++ encL encI r.parts
  else if r.kind = 4 then encTx r.txn ++ (encB r.commit ++ encSt r.stamp)
  else if r.kind = 5 then encSt r.stamp
  else if r.kind = 6 then encF r.point ++ (encI r.n ++ encSt r.stamp)
  else if r.kind = 9 then encTx r.txn ++ (encSt r.stamp ++ encL encI r.parts)
  else if r.kind = 10 then encTx r.txn
  else if r.kind = 11 then encSt r.prev ++ (encSt r.stamp ++ (encTx r.txn ++ encL encKV r.writes))
  else if r.kind = 12 then encSt r.stamp ++ encL encKV r.pairs
  else [])
theorem m_stSame {P : Program} {R : Ending → World → Prop} {X : XS} {w : World} {t sz b o o' : Nat} {cs : List Value} {ty : TypeId} {v : Value} {N : Value → World → XS → Prop} (h : RowIs w X b cs ty) (hoo : o' = o) (ht : (P.info? t).map (·.size) = some sz)
    (hl : o + sz ≤ cs.length) (hv : v.cells.size = sz) (h1 : v.cells.toList.all one = true) (hX : ∀ k, X k → k < w.heap.size) (he : setL cs o v.cells.toList = cs)
    (n : ∀ w' X', Since X w X' w' → N undef w' X') : eU P R X w true (st1 t sz (ptr b o') v) N := by
  refine m_stN h hoo ht hl hv h1 hX fun w' X' c hr => n w' X' ⟨⟨c.os, c.tape, c.output, c.size, fun k hk => ?_⟩, c.sub, c.has⟩
  by_cases e : k = b
  · subst e
    rw [h.2, hr.2, he]
  · exact c.block k hk e
theorem WS.chgB {w0 w w' : World} {X X' : XS} {lo wb b : Nat} {vb0 vb : Value} {bs : List Nat} {cs : List Value} {ty : TypeId} (hS : WS w0 vb0 w X lo wb vb bs) (hr : RowIs w X b cs ty) (hb : w0.heap.size ≤ b)
    (h1 : decide (308 ≠ ty) = true) (h2 : decide (5 ≠ ty) = true) (c : Chg (fun k => k = b) X w X' w') : WS w0 vb0 w' X' lo wb vb bs := by
  have hne : wb ≠ b := hS.r.box.neRow hr h1
  refine ⟨hS.s.chg c fun q h0 hq => ?_, ⟨⟨c.sub _ hS.r.box.1, by rw [c.block _ hS.r.box.1 fun e => hne e]; exact hS.r.box.2⟩, Own.chg hS.r.ow c fun g hg e => Own.neRow hS.r.ow hr h2 (by rw [hg, e])⟩, hS.v⟩
  have := h0.1
  have hq : q = b := hq
  omega
theorem _root_.Go.Eng.RowIs.chg {F X X' : XS} {w w' : World} {b : Nat} {cs : List Value} {ty : TypeId} (h : RowIs w X b cs ty) (c : Chg F X w X' w') (hn : ¬ F b) : RowIs w' X' b cs ty := ⟨c.sub _ h.1, by rw [c.block _ h.1 hn]; exact h.2⟩
theorem d_recs_walk {w : World} {X Z : XS} {lo wb cb xb : Nat} {vb : Value} {bs : List Nat} {r : Rec} {vr vw vp vq vh vd : Value} (h : Wr w X lo wb vb bs) (hc : Cells w Z cb 0 (coderL wb)) (hx : RowIs w Z xb (r.l vr vw vp vq vh vd) 117) (hat : r.at w Z vr vw vp vq vh vd) (hZ : Zok Z X wb vb) (hlo : lo ≤ w.heap.size)
    (hb : bs.length + (encR r).length ≤ 2 ^ 33) : Puts 89 #[ptr cb 0, ptr xb 0] w X lo wb vb bs (encR r) := by
  intro w0 hk
  have hlo0 : lo ≤ w0.heap.size := Nat.le_trans hlo hk.size
  replace hc := hc.mv (hZ.mv hk)
  replace hx := hx.mv (hZ.mv hk)
  replace hat := hat.mv (hZ.mv hk)
  obtain ⟨a1, a2, a3, a4, a5, a6⟩ := hat
  obtain ⟨p1, n1, c1, rfl⟩ := a1.form
  obtain ⟨p2, n2, c2, rfl⟩ := a2.form
  have o1 := a1.one
  have o2 := a2.one
  have o3 := a3.one
  have o4 := a4.one
  have o5 := a5.one
  have o6 := a6.one
  have hrow := hx
  replace hx := hx.cells
  have hS := WS.init (h.mv hk.mvo)
  have e1 := encI_len r.kind
  obtain ⟨E, hE⟩ : ∃ E, E = encR r := ⟨_, rfl⟩
  rw [← hE] at hb ⊢
  unfold encR at hE
  have hEl : (encI r.kind).length ≤ E.length := by rw [hE, List.length_append]; omega
  apply ok_recs_walk; unfold vc_recs_walk
  have hs := hS.s
  repeat' first | with_reducible apply r_nil | ((with_reducible apply m_fld1); (· exact qF); (· kernel_rfl); (· rfl); intro _ _ _)
  refine hS.puts (d_coder_Int hS.r (hc.mv hS.at) (Cells.mv (by assumption) hS.at) hS.z (by omega) (Nat.le_trans hlo0 hs.kp.size)) (by kernel_rfl) fun vb2 w X hS2 _ => ?_
  replace hs := hS2.s
  repeat' first | with_reducible apply r_nil | ((with_reducible apply m_fld1); (· exact qF); (· kernel_rfl); (· rfl); intro _ _ _) | ((with_reducible apply m_ld1); (· exact qF); (· exact qM); (· kernel_rfl); (· rfl))
  refine jn_by (fun (k : World → XS → Prop) => ∀ w X vb3, WS w0 vb w X lo wb vb3 (bs ++ E) → k w X) (fun w X vb3 hS3 => hS3.fin) fun K hK => ?_
  repeat' first | with_reducible (first | apply condW_T | apply condW_F) | ((with_reducible apply un_cell); (· rfl)) | with_reducible apply r_nil | (with_reducible apply r_eql <;> intro _) | ((with_reducible apply m_fld1); (· exact qF); (· kernel_rfl); (· rfl); intro _ _ _) | ((with_reducible apply m_fld); (· exact qF); (· kernel_rfl); (· rfl); (· exact qN); intro _ _ _) | ((with_reducible apply m_ld1); (· exact qF); (· exact qM); (· kernel_rfl); (· rfl)) | ((with_reducible apply m_ldA); (· exact qF); (· exact qM); (· kernel_rfl); (· rfl)) | ((with_reducible apply r_bld); (· kernel_rfl)) | with_reducible apply jn_of
  all_goals (repeat (first | rw [if_pos (by omega)] at hE | rw [if_neg (by omega)] at hE))
  all_goals (have hEb := congrArg List.length hE; simp only [List.length_append] at hEb)
  · refine hS2.puts (d_coder_State (x := r.state) hS2.r (hc.mv hS2.at) (Cells.mv (by assumption) hS2.at) (a5.mv hS2.at) (a6.mv hS2.at) hS2.z (Nat.le_trans hlo0 hs.kp.size) (by simp only [List.length_append]; omega)) (by kernel_rfl) fun vb3 w X hS3 _ => ?_
    have h9 := hS3
    rw [hE] at hK
    (try simp only [List.append_assoc] at h9 hK)
    exact hK _ _ _ h9
  · refine hS2.puts (d_coder_Int hS2.r (hc.mv hS2.at) (Cells.mv (by assumption) hS2.at) hS2.z (by simp only [List.length_append]; omega) (Nat.le_trans hlo0 hs.kp.size)) (by kernel_rfl) fun vb3 w X hS3 _ => ?_
    have h9 := hS3
    rw [hE] at hK
    (try simp only [List.append_assoc] at h9 hK)
    exact hK _ _ _ h9
  · refine hS2.puts (d_coder_Int hS2.r (hc.mv hS2.at) (Cells.mv (by assumption) hS2.at) hS2.z (by simp only [List.length_append]; omega) (Nat.le_trans hlo0 hs.kp.size)) (by kernel_rfl) fun vb3 w X hS3 _ => ?_
    have h9 := hS3
    rw [hE] at hK
    (try simp only [List.append_assoc] at h9 hK)
    exact hK _ _ _ h9
  · refine hS2.puts (d_coder_Int hS2.r (hc.mv hS2.at) (Cells.mv (by assumption) hS2.at) hS2.z (by simp only [List.length_append]; omega) (Nat.le_trans hlo0 hs.kp.size)) (by kernel_rfl) fun vb3 w X hS3 _ => ?_
    have h9 := hS3
    rw [hE] at hK
    (try simp only [List.append_assoc] at h9 hK)
    exact hK _ _ _ h9
  · have e2 : (encP ⟨r.txn, r.stamp, r.reads, r.writes⟩).length ≤ E.length := by omega
    refine m_alloc (l := [I 0, I 0, I 0, I 0, I 0, I 0, .slice none 0 0, .slice none 0 0]) hs.has (by kernel_rfl) fun pb w3 X3 hpb hs3 hrowP => ?_
    have hS3 := hS2.since hs3
    refine m_stN (o := 0) hrowP rfl (by kernel_rfl) (by simp) rfl rfl hs3.has fun w4 X4 c4 hrow4 => ?_
    replace hrow4 : RowIs w4 X4 pb ((⟨r.txn, r.stamp, r.reads, r.writes⟩ : Pend).l (.slice p1 n1 c1) (.slice p2 n2 c2)) 229 := hrow4
    have hpb0 : w0.heap.size ≤ pb := Nat.le_trans hs.kp.size hpb
    have hS4 := hS3.chgB hrowP hpb0 (by kernel_rfl) (by kernel_rfl) c4
    have hnf : ¬ fpW wb vb2 pb := fun hf => hf.elim (fun e => hS4.r.box.neRow hrow4 (by kernel_rfl) e.symm) fun e => Own.neRow hS4.r.ow hrow4 (by kernel_rfl) e
    obtain ⟨Z', hZ'⟩ : ∃ Z' : XS, Z' = fun k => k = pb ∨ out (fpW wb vb) w0 k := ⟨_, rfl⟩
    have mv4 : Mv (out (fpW wb vb) w0) w0 Z' w4 := fun k hk' _ => ⟨by rw [hZ']; exact .inr hk', hS4.s.kp.block k hk'⟩
    have hzz : Zok Z' X4 wb vb2 := fun k hk' => by
      rw [hZ'] at hk'
      rcases hk' with rfl | hk'
      · exact ⟨hrow4.1, hnf⟩
      · exact hS4.z k hk'
    refine hS4.puts (d_coder_Pending (x := ⟨r.txn, r.stamp, r.reads, r.writes⟩) hS4.r (hc.mv mv4) (RowIs.cells (X := Z') (ty := 229) ⟨by rw [hZ']; exact .inl rfl, hrow4.2⟩) (a1.mv mv4) (a2.mv mv4) hzz (Nat.le_trans hlo0 hS4.s.kp.size) (by simp only [List.length_append]; omega)) (by kernel_rfl) fun vb5 w5 X5 hS5 c5 => ?_
    have hrow5 := hrow4.chg c5 hnf
    clear hs
    have hs := hS5.s
    repeat' first | with_reducible apply r_nil | ((with_reducible apply m_fld1); (· exact qF); (· kernel_rfl); (· rfl); intro _ _ _) | ((with_reducible apply m_fld); (· exact qF); (· kernel_rfl); (· rfl); (· exact qN); intro _ _ _) | ((with_reducible apply m_ld1); (· exact qF); (· exact qM); (· kernel_rfl); (· rfl)) | ((with_reducible apply m_ldA); (· exact qF); (· exact qM); (· kernel_rfl); (· rfl))
    refine m_stSame (o := 1) (hrow.mv hS5.s.mv) (by omega) (by kernel_rfl) (by simp) rfl rfl hS5.s.has (by rfl) fun w6 X6 hs6 => ?_
    have hS6 := hS5.since hs6
    repeat' first | with_reducible apply r_nil | ((with_reducible apply m_fld); (· exact qF); (· kernel_rfl); (· rfl); (· exact qN); intro _ _ _)
    refine m_stSame (o := 4) (hrow.mv hS6.s.mv) (by omega) (by kernel_rfl) (by simp) rfl rfl hS6.s.has (by rfl) fun w7 X7 hs7 => ?_
    have hS7 := hS6.since hs7
    repeat' first | with_reducible apply r_nil | ((with_reducible apply m_fld1); (· exact qF); (· kernel_rfl); (· rfl); intro _ _ _)
    refine m_stSame (o := 13) (hrow.mv hS7.s.mv) (by omega) (by kernel_rfl) (by simp) rfl rfl hS7.s.has (by rfl) fun w8 X8 hs8 => ?_
    have hS8 := hS7.since hs8
    repeat' first | with_reducible apply r_nil | ((with_reducible apply m_fld1); (· exact qF); (· kernel_rfl); (· rfl); intro _ _ _)
    refine m_stSame (o := 14) (hrow.mv hS8.s.mv) (by omega) (by kernel_rfl) (by simp) rfl rfl hS8.s.has (by rfl) fun w9 X9 hs9 => ?_
    have hS9 := hS8.since hs9
    clear hs
    have hs := hS9.s
    repeat' first | with_reducible apply r_nil | ((with_reducible apply m_fld1); (· exact qF); (· kernel_rfl); (· rfl); intro _ _ _) | (with_reducible apply m_mkFun)
    refine hS9.puts (d_coder_ListInt hS9.r (hc.mv hS9.at) (Cells.mv (by assumption) hS9.at) (a3.mv hS9.at) hS9.z (Nat.le_trans hlo0 hs.kp.size) (by simp only [List.length_append]; omega)) (by kernel_rfl) fun vb10 w X hS10 _ => ?_
    have h9 := hS10
    rw [hE] at hK
    (try simp only [List.append_assoc] at h9 hK)
    exact hK _ _ _ h9
  · refine hS2.puts (d_coder_Txn (s := r.txn) hS2.r (hc.mv hS2.at) (Cells.mv (by assumption) hS2.at) hS2.z (by (try simp only [List.length_append]); omega) (Nat.le_trans hlo0 hs.kp.size)) (by kernel_rfl) fun vb3 w X hS3 _ => ?_
    replace hs := hS3.s
    repeat' first | with_reducible apply r_nil | ((with_reducible apply m_fld1); (· exact qF); (· kernel_rfl); (· rfl); intro _ _ _)
    refine hS3.puts (d_coder_Flag (b := r.commit) hS3.r (hc.mv hS3.at) (Cells.mv (by assumption) hS3.at) hS3.z (by (try simp only [List.length_append]); omega) (Nat.le_trans hlo0 hs.kp.size)) (by kernel_rfl) fun vb4 w X hS4 _ => ?_
    replace hs := hS4.s
    repeat' first | with_reducible apply r_nil | ((with_reducible apply m_fld); (· exact qF); (· kernel_rfl); (· rfl); (· exact qN); intro _ _ _)
    refine hS4.puts (d_coder_Stamp (s := r.stamp) hS4.r (hc.mv hS4.at) (Cells.mv (by assumption) hS4.at) hS4.z (by (try simp only [List.length_append]); omega) (Nat.le_trans hlo0 hs.kp.size)) (by kernel_rfl) fun vb5 w X hS5 _ => ?_
    replace hs := hS5.s
    skip
    have h9 := hS5
    rw [hE] at hK
    (try simp only [List.append_assoc] at h9 hK)
    exact hK _ _ _ h9
  · refine hS2.puts (d_coder_Stamp (s := r.stamp) hS2.r (hc.mv hS2.at) (Cells.mv (by assumption) hS2.at) hS2.z (by (try simp only [List.length_append]); omega) (Nat.le_trans hlo0 hs.kp.size)) (by kernel_rfl) fun vb3 w X hS3 _ => ?_
    replace hs := hS3.s
    skip
    have h9 := hS3
    rw [hE] at hK
    (try simp only [List.append_assoc] at h9 hK)
    exact hK _ _ _ h9
  · refine hS2.puts (d_coder_Float hS2.r (hc.mv hS2.at) (Cells.mv (by assumption) hS2.at) hS2.z (by (try simp only [List.length_append]); omega) (Nat.le_trans hlo0 hs.kp.size)) (by kernel_rfl) fun vb3 w X hS3 _ => ?_
    replace hs := hS3.s
    repeat' first | with_reducible apply r_nil | ((with_reducible apply m_fld1); (· exact qF); (· kernel_rfl); (· rfl); intro _ _ _)
    refine hS3.puts (d_coder_Int hS3.r (hc.mv hS3.at) (Cells.mv (by assumption) hS3.at) hS3.z (by (try simp only [List.length_append]); omega) (Nat.le_trans hlo0 hs.kp.size)) (by kernel_rfl) fun vb4 w X hS4 _ => ?_
    replace hs := hS4.s
    repeat' first | with_reducible apply r_nil | ((with_reducible apply m_fld); (· exact qF); (· kernel_rfl); (· rfl); (· exact qN); intro _ _ _)
    refine hS4.puts (d_coder_Stamp (s := r.stamp) hS4.r (hc.mv hS4.at) (Cells.mv (by assumption) hS4.at) hS4.z (by (try simp only [List.length_append]); omega) (Nat.le_trans hlo0 hs.kp.size)) (by kernel_rfl) fun vb5 w X hS5 _ => ?_
    replace hs := hS5.s
    skip
    have h9 := hS5
    rw [hE] at hK
    (try simp only [List.append_assoc] at h9 hK)
    exact hK _ _ _ h9
  · refine hS2.puts (d_coder_Txn (s := r.txn) hS2.r (hc.mv hS2.at) (Cells.mv (by assumption) hS2.at) hS2.z (by (try simp only [List.length_append]); omega) (Nat.le_trans hlo0 hs.kp.size)) (by kernel_rfl) fun vb3 w X hS3 _ => ?_
    replace hs := hS3.s
    repeat' first | with_reducible apply r_nil | ((with_reducible apply m_fld); (· exact qF); (· kernel_rfl); (· rfl); (· exact qN); intro _ _ _)
    refine hS3.puts (d_coder_Stamp (s := r.stamp) hS3.r (hc.mv hS3.at) (Cells.mv (by assumption) hS3.at) hS3.z (by (try simp only [List.length_append]); omega) (Nat.le_trans hlo0 hs.kp.size)) (by kernel_rfl) fun vb4 w X hS4 _ => ?_
    replace hs := hS4.s
    repeat' first | with_reducible apply r_nil | ((with_reducible apply m_fld1); (· exact qF); (· kernel_rfl); (· rfl); intro _ _ _) | (with_reducible apply m_mkFun)
    refine hS4.puts (d_coder_ListInt hS4.r (hc.mv hS4.at) (Cells.mv (by assumption) hS4.at) (a3.mv hS4.at) hS4.z (Nat.le_trans hlo0 hs.kp.size) (by simp only [List.length_append]; omega)) (by kernel_rfl) fun vb5 w X hS5 _ => ?_
    have h9 := hS5
    rw [hE] at hK
    (try simp only [List.append_assoc] at h9 hK)
    exact hK _ _ _ h9
  · refine hS2.puts (d_coder_Txn (s := r.txn) hS2.r (hc.mv hS2.at) (Cells.mv (by assumption) hS2.at) hS2.z (by (try simp only [List.length_append]); omega) (Nat.le_trans hlo0 hs.kp.size)) (by kernel_rfl) fun vb3 w X hS3 _ => ?_
    replace hs := hS3.s
    skip
    have h9 := hS3
    rw [hE] at hK
    (try simp only [List.append_assoc] at h9 hK)
    exact hK _ _ _ h9
  · refine hS2.puts (d_coder_Stamp (s := r.prev) hS2.r (hc.mv hS2.at) (Cells.mv (by assumption) hS2.at) hS2.z (by (try simp only [List.length_append]); omega) (Nat.le_trans hlo0 hs.kp.size)) (by kernel_rfl) fun vb3 w X hS3 _ => ?_
    replace hs := hS3.s
    repeat' first | with_reducible apply r_nil | ((with_reducible apply m_fld); (· exact qF); (· kernel_rfl); (· rfl); (· exact qN); intro _ _ _)
    refine hS3.puts (d_coder_Stamp (s := r.stamp) hS3.r (hc.mv hS3.at) (Cells.mv (by assumption) hS3.at) hS3.z (by (try simp only [List.length_append]); omega) (Nat.le_trans hlo0 hs.kp.size)) (by kernel_rfl) fun vb4 w X hS4 _ => ?_
    replace hs := hS4.s
    repeat' first | with_reducible apply r_nil | ((with_reducible apply m_fld); (· exact qF); (· kernel_rfl); (· rfl); (· exact qN); intro _ _ _)
    refine hS4.puts (d_coder_Txn (s := r.txn) hS4.r (hc.mv hS4.at) (Cells.mv (by assumption) hS4.at) hS4.z (by (try simp only [List.length_append]); omega) (Nat.le_trans hlo0 hs.kp.size)) (by kernel_rfl) fun vb5 w X hS5 _ => ?_
    replace hs := hS5.s
    repeat' first | with_reducible apply r_nil | ((with_reducible apply m_fld1); (· exact qF); (· kernel_rfl); (· rfl); intro _ _ _) | (with_reducible apply m_mkFun)
    refine hS5.puts (d_coder_ListW hS5.r (hc.mv hS5.at) (Cells.mv (by assumption) hS5.at) (a2.mv hS5.at) hS5.z (Nat.le_trans hlo0 hs.kp.size) (by simp only [List.length_append]; omega)) (by kernel_rfl) fun vb6 w X hS6 _ => ?_
    have h9 := hS6
    rw [hE] at hK
    (try simp only [List.append_assoc] at h9 hK)
    exact hK _ _ _ h9
  · refine hS2.puts (d_coder_Stamp (s := r.stamp) hS2.r (hc.mv hS2.at) (Cells.mv (by assumption) hS2.at) hS2.z (by (try simp only [List.length_append]); omega) (Nat.le_trans hlo0 hs.kp.size)) (by kernel_rfl) fun vb3 w X hS3 _ => ?_
    replace hs := hS3.s
    repeat' first | with_reducible apply r_nil | ((with_reducible apply m_fld1); (· exact qF); (· kernel_rfl); (· rfl); intro _ _ _) | (with_reducible apply m_mkFun)
    refine hS3.puts (d_coder_ListP hS3.r (hc.mv hS3.at) (Cells.mv (by assumption) hS3.at) (a4.mv hS3.at) hS3.z (Nat.le_trans hlo0 hs.kp.size) (by simp only [List.length_append]; omega)) (by kernel_rfl) fun vb4 w X hS4 _ => ?_
    have h9 := hS4
    rw [hE] at hK
    (try simp only [List.append_assoc] at h9 hK)
    exact hK _ _ _ h9
  · rw [List.append_nil] at hE
    have h9 := hS2
    rw [hE] at hK
    (try simp only [List.append_assoc] at h9 hK)
    exact hK _ _ _ h9
def Rec.encErr (r : Rec) : Int := if r.err ≠ 0 then r.err else if 262144 < (encR r).length then 2 else 0
theorem d_recs_Encode {w : World} {X : XS} {r : Rec} {vr vw vp vq vh vd : Value} (h : r.at w X vr vw vp vq vh vd) (hsm : r.small) (hok : r.err = 0 → (encR r).length ≤ 2 ^ 33) :
    Ct Tryz.prog 91 #[r.v vr vw vp vq vh vd] w X nX fun v wa w' => if r.encErr ≠ 0 then v = .tuple #[.slice none 0 0, I r.encErr] else ∃ vb, v = .tuple #[vb, I 0] ∧ Own w' (made wa w') wa.heap.size 5 1 vb ((encR r).map U1) := by
  intro w0 hk
  replace h := h.mv hk.mvo
  have o1 := h.1.one
  have o2 := h.2.1.one
  have o3 := h.2.2.1.one
  have o4 := h.2.2.2.1.one
  have o5 := h.2.2.2.2.1.one
  have o6 := h.2.2.2.2.2.one
  apply ok_recs_Encode; unfold vc_recs_Encode
  have hs := Since.init w0
  repeat' first | with_reducible (first | apply condW_T | apply condW_F) | (with_reducible apply r_neq <;> intro _) | ((with_reducible apply m_ldA); (· exact qF); (· exact qM); (· kernel_rfl); (· rfl)) | ((with_reducible apply m_boxA); (case hX => exact hs.has); intro bx w X hbx hs1 hrow; have hs0 := hs.trans hs1; replace hs := Since.refl' hs1.has) | (refine r_ct0V (d_recs_May (r := r) (h.mv (hs0.trans hs).mv) hsm) (by kernel_rfl) hs.has fun w X hs1 => ?_; replace hs := hs.trans hs1)
  · have e : r.encErr = r.err := if_pos (by assumption)
    exact fin_ret0 (hs0.trans hs) fun wa hk => by dsimp only; rw [e, if_pos (by assumption)]
  · have hr0 : r.err = 0 := by assumption
    have k3 := hok hr0
    refine r_ct0 d_wire_NewWriter (by kernel_rfl) hs.has ?_
    rintro v wa w2 X2 ⟨wb, rfl, hW⟩ hle hin hs2
    have hsA := hs0.trans (hs.trans hs2)
    have hb1 := hrow.lt
    have hz1 := hs.kp.size
    have hz0 := hs0.kp.size
    have hwb := hW.box.1
    have hrow2 := hrow.since (hs.trans hs2)
    refine r_bld (by kernel_rfl) ?_
    refine m_boxA hsA.has fun cb w3 X3 hcb hs3 hrowC => ?_
    have hsB := hsA.trans hs3
    have hrow3 := hrow2.since hs3
    obtain ⟨Z, hZd⟩ : ∃ Z : XS, Z = fun k => k = bx ∨ k = cb ∨ old w0 k := ⟨_, rfl⟩
    have hwb1 : wa.heap.size ≤ wb ∧ wb < w2.heap.size := hwb
    have hZ : Zok Z X3 wb (.slice none 0 0) := fun k hk' => by
      rw [hZd] at hk'
      refine ⟨?_, fun hf => ?_⟩
      · rcases hk' with rfl | rfl | hk'
        · exact hrow3.1
        · exact hrowC.1
        · exact hsB.sub k hk'
      · rcases hf with hf | hf
        · rcases hk' with e | e | e
          · omega
          · omega
          · have : k < w0.heap.size := e
            omega
        · cases hf
    have hcC : Cells w3 Z cb 0 (coderL wb) := RowIs.cells (ty := 175) ⟨by rw [hZd]; exact .inr (.inl rfl), hrowC.2⟩
    have hxC : RowIs w3 Z bx (r.l vr vw vp vq vh vd) 117 := ⟨by rw [hZd]; exact .inl rfl, hrow3.2⟩
    have haC : r.at w3 Z vr vw vp vq vh vd := h.mv fun k hk' hl => ⟨by rw [hZd]; exact .inr (.inr hk'), hsB.kp.block k hk'⟩
    have hW3 : Wr w3 X3 wa.heap.size wb (.slice none 0 0) [] := (hW.mv (Mv.sub hin)).mv hs3.mv
    refine r_ct (d_recs_walk hW3 hcC hxC haC hZ (by have := hs3.kp.size; omega) (by simpa using k3)) (by kernel_rfl) hsB.has (fun q hq => by
      rcases hq with rfl | hq
      · exact hW3.box.1
      · cases hq) fun v wa4 w4 X4 hq hle4 hin4 hkp4 hc4 => ?_
    obtain ⟨rfl, vb', hW4⟩ := hq
    have hs4 := hsB.chg hc4 fun k hk' hf => by
      have h0 : k < w0.heap.size := hk'
      rcases hf with hf | hf
      · omega
      · cases hf
    have hW5 : Wr w4 X4 wa.heap.size wb vb' (encR r) := hW4.mv (Mv.sub fun k hk' => by
      rcases hk' with (hk' | hk') | hk'
      · rw [hk']; exact hc4.sub _ hW3.box.1
      · cases hk'
      · exact hin4 k hk')
    refine r_ct0 (d_wire_Bytes hW5 (by omega)) (by kernel_rfl) hs4.has ?_
    rintro v5 wa5 w5 X5 ho5 hle5 hin5 hs5
    have hsC := hs4.trans hs5
    have ho : Own w5 X5 w0.heap.size 5 1 v5 ((encR r).map U1) := ho5.up hin5 (by have := hs4.kp.size; omega)
    clear hs hs0
    have hs := hsC
    have ov := ho.sl.one
    have hl : (List.map U1 (encR r)).length = (encR r).length := List.length_map _
    repeat' first | with_reducible (first | apply condW_T | apply condW_F) | (with_reducible apply r_gtr <;> intro _) | ((with_reducible apply m_lnS); (· exact qO); (· kernel_rfl))
    · have e : r.encErr = 2 := by unfold Rec.encErr; rw [if_neg (by omega), if_pos (by omega)]
      exact fin_ret0 hs fun wb hk9 => by dsimp only; rw [e, if_pos (by omega)]
    · have e : r.encErr = 0 := by unfold Rec.encErr; rw [if_neg (by omega), if_neg (by omega)]
      exact fin_ret0 hs fun wb hk9 => by
        dsimp only
        rw [e, if_neg (by omega)]
        exact ⟨v5, rfl, (ho.kp hk9).tight⟩
end Go.Proofs.YtpdkoaklobnegaaGreat
namespace Go.Proofs.YtpdkoaklobnegaaGreat
open Go.Eng
set_option maxRecDepth 100000
set_option maxHeartbeats 1000000
set_option linter.unusedVariables false
set_option linter.unusedSimpArgs false
attribute [local irreducible] un jn chk fld ld1 ldA st1 ixS lnS lnT bld cvI cvF ixA bsS apS rdV rdW grdW eW eV eU eC eF gE condW fin pickN nilN binS vS lp0 lp1 lp2 lp3 lp4 lp5 lp6 lp7 nx0 nx1 nx2 nx3 nx4 nx5 nx6 nx7
abbrev nil0 : Value := .slice none 0 0
abbrev MA (kd fr to : Int) (prev st : Stamp) (t : Txn) (a : Value) : Value := .agg #[I kd, I fr, I to, I t.coord, I t.life, I t.sq, I 0, I 0, I 0, I st.wall, I st.logic, I st.node, I prev.wall, I prev.logic, I prev.node,
  B false, I 0, I 0, nil0, nil0, a, nil0, nil0, nil0, I 0, I 0, .float .f64 0, .float .f64 0, I 0, I 0, I 0, I 0, I 0, I 0, nil0, nil0]
def nodeOk (n : Int) : Bool := (decide (n ≥ 1) && decide (n ≤ 12)) || (decide (n > 20) && decide (n ≤ 22)) || decide (n = 31) || decide (n = 32)
theorem c_msgs_ranges (n : Int) : Pure Tryz.prog 163 #[I n] (B (decide (n ≥ 1) && decide (n ≤ 12))) := by
  intro w
  apply ok_msgs_ranges; unfold vc_msgs_ranges
  have hs := Since.init w
  repeat' first | with_reducible (first | apply un_selT | apply un_selFT | apply grdV_onT | apply grdW_offT | apply rdW_pickT | apply rdW_pickF) | (with_reducible apply r_leq <;> intro _) | (with_reducible apply r_geq <;> intro _) | ((with_reducible refine fin_pure hs ?_); simp_all <;> omega)
theorem c_msgs_Node (n : Int) : Pure Tryz.prog 100 #[I n] (B (nodeOk n)) := by
  intro w
  apply ok_msgs_Node; unfold vc_msgs_Node
  have hs := Since.init w
  repeat' first | with_reducible (first | apply un_selT | apply un_selF | apply un_selTF | apply un_selFT | apply un_selU | apply grdV_onT | apply grdV_onF | apply grdW_onF | apply grdW_offT | apply grdW_offF | apply grdW_U | apply rdW_pickT | apply rdW_pickF) | (with_reducible apply r_eql <;> intro _) | (with_reducible apply r_leq <;> intro _) | (with_reducible apply r_gtr <;> intro _) | ((with_reducible refine r_pureB (c_msgs_ranges _) ?_ hs.has ?_ ?_); (· kernel_rfl); all_goals (intro _ w X hs1; replace hs := hs.trans hs1)) | ((with_reducible refine fin_pure hs ?_); simp_all [nodeOk] <;> omega)
theorem q_msgs_without {fr to : Int} {prev st : Stamp} {t : Txn} {a : Value} (ha : Eng.one a = true) : Pure Tryz.prog 99 #[MA 12 fr to prev st t a] (.tuple #[MA 12 fr to Stamp.zero Stamp.zero Txn.zero nil0, B true]) := by
  intro w
  apply ok_msgs_without; unfold vc_msgs_without
  have hs := Since.init w
  repeat' first | with_reducible (first | apply condW_T | apply condW_F) | ((with_reducible apply m_sub); (· exact qN)) | ((with_reducible apply m_set); (· exact qN)) | with_reducible apply un_box | (with_reducible apply r_eql <;> intro _) | ((with_reducible apply r_bld); (· kernel_rfl)) | ((with_reducible apply m_chkc); (case h => exact qE)) | ((with_reducible apply m_chkl); (case h => exact qE)) | ((with_reducible apply chk_T); (· exact qC)) | with_reducible apply jn_of | ((with_reducible refine fin_pure hs ?_); (first | rfl | (exfalso; omega)))
theorem q_msgs_zero {kd fr to : Int} : Pure Tryz.prog 101 #[MA kd fr to Stamp.zero Stamp.zero Txn.zero nil0] (B true) := by
  intro w
  apply ok_msgs_zero; unfold vc_msgs_zero
  have hs := Since.init w
  have hn0 : Sl w (old w) 1 nil0 (([] : List KV).map KV.l) := Sl.nil _ _ _
  repeat' first | with_reducible (first | apply un_selT | apply un_selFT | apply grdV_onT | apply grdW_offT | apply rdW_pickT | apply rdW_pickF | apply gE_T | apply gE_FT | apply r_notF) | (with_reducible apply r_eql <;> intro _) | ((with_reducible apply m_lnS); (· exact qO); (· kernel_rfl)) | ((with_reducible apply r_bld); (· kernel_rfl)) | ((with_reducible refine r_eqS0 _ ?_ ?_ ?_); (· kernel_rfl); all_goals intros) | ((with_reducible refine r_eqT0 _ ?_ ?_ ?_); (· kernel_rfl); all_goals intros) | ((with_reducible apply r_eql3); (· kernel_rfl); all_goals intros) | ((with_reducible apply m_chkl); (case h => exact qE)) | ((with_reducible apply r_add); (· omega); (· omega)) | with_reducible apply jn_of | ((with_reducible refine fin_pure hs ?_); (first | rfl | (exfalso; simp_all; done) | (exfalso; omega))) | ((with_reducible refine eC_val (run_bits _) hs.has ?_); intro w X hs1; replace hs := hs.trans hs1; replace hn0 : Sl w X 1 nil0 (([] : List KV).map KV.l) := Sl.nil _ _ _)
theorem d_msgs_fields {w : World} {X : XS} {fr to : Int} {prev st : Stamp} {t : Txn} {a : Value} {l : List KV} (h : Sl w X 4 a (l.map KV.l)) (hb : l.length ≤ 2 ^ 40) :
    Ct Tryz.prog 102 #[MA 12 fr to prev st t a] w X nX fun v _ _ => v = B (applyOk prev st t l) := by
  intro w0 hk
  replace h := h.mv hk.mvo
  have o1 := h.one
  apply ok_msgs_fields; unfold vc_msgs_fields
  have hs := Since.init w0
  repeat' first | with_reducible (first | apply condW_T | apply condW_F | apply un_selT | apply un_selFT | apply grdV_onT | apply grdW_offT | apply rdW_pickT | apply rdW_pickF | apply gE_T | apply gE_FT) | (with_reducible apply r_eql <;> intro _) | (with_reducible apply r_leq <;> intro _) | (with_reducible apply r_geq <;> intro _) | with_reducible apply jn_of | ((with_reducible refine r_pureB (c_msgs_ranges _) ?_ hs.has ?_ ?_); (· kernel_rfl); all_goals (intro _ w X hs1; replace hs := hs.trans hs1)) | ((with_reducible refine r_pureB (c_hlc_May _) ?_ hs.has ?_ ?_); (· kernel_rfl); all_goals (intro _ w X hs1; replace hs := hs.trans hs1)) | (exfalso; omega) | ((first | (with_reducible refine fin_ret0 hs ?_) | (with_reducible refine fin_ret0 (hs0.trans hs) ?_)); intro wa hk; (rfl)) | (refine r_ct0V (d_recs_Apply  qA hb) (by kernel_rfl) hs.has ?_; intro w X hs1; replace hs := hs.trans hs1)
theorem d_msgs_May {w : World} {X : XS} {fr to : Int} {prev st : Stamp} {t : Txn} {a : Value} {l : List KV} (h : Sl w X 4 a (l.map KV.l)) (hb : l.length ≤ 2 ^ 40) :
    Ct Tryz.prog 52 #[MA 12 fr to prev st t a] w X nX fun v _ _ => v = I (if nodeOk fr && nodeOk to && applyOk prev st t l then 0 else 4) := by
  intro w0 hk
  replace h := h.mv hk.mvo
  have o1 := h.one
  apply ok_msgs_May; unfold vc_msgs_May
  have hs := Since.init w0
  repeat' first | with_reducible (first | apply condW_T | apply condW_F) | ((with_reducible apply m_sub); (· exact qN)) | with_reducible (first | apply un_box | apply un_selF | apply un_selTF | apply grdV_onF | apply grdW_offF | apply rdW_pickT | apply rdW_pickF | apply gE_F | apply gE_TF | apply r_notT | apply r_notF) | ((with_reducible apply m_ext); (· rfl)) | ((with_reducible apply m_chkc); (case h => exact qE)) | ((with_reducible apply chk_T); (· exact qC)) | with_reducible apply jn_of | ((with_reducible refine r_pureB (c_msgs_Node _) ?_ hs.has ?_ ?_); (· kernel_rfl); all_goals (intro _ w X hs1; replace hs := hs.trans hs1)) | ((first | (with_reducible refine fin_ret0 hs ?_) | (with_reducible refine fin_ret0 (hs0.trans hs) ?_)); intro wa hk; (simp_all)) | (refine r_pure (q_msgs_without o1) (by kernel_rfl) hs.has ?_; intro w X hs1; replace hs := hs.trans hs1) | (refine r_pure q_msgs_zero (by kernel_rfl) hs.has ?_; intro w X hs1; replace hs := hs.trans hs1) | (refine r_ct0B (d_msgs_fields  qA hb) (by kernel_rfl) hs.has ?_ ?_ <;> (intro _ w X hs1; replace hs := hs.trans hs1))
end Go.Proofs.YtpdkoaklobnegaaGreat
namespace Go.Proofs.YtpdkoaklobnegaaGreat
open Go.Eng
set_option maxRecDepth 100000
set_option maxHeartbeats 1000000
set_option linter.unusedVariables false
set_option linter.unusedSimpArgs false
attribute [local irreducible] un jn chk fld ld1 ldA st1 ixS lnS lnT bld cvI cvF ixA bsS apS rdV rdW grdW eW eV eU eC eF gE condW fin pickN nilN binS vS lp0 lp1 lp2 lp3 lp4 lp5 lp6 lp7 nx0 nx1 nx2 nx3 nx4 nx5 nx6 nx7
@[ext] structure SeenD where
  key : BA
  val : Val
  stamp : Stamp
  deriving DecidableEq
abbrev SeenD.l (x : SeenD) : List Value := [.string x.key, I x.val.kind, .float .f64 x.val.num, .string x.val.text, I x.stamp.wall, I x.stamp.logic, I x.stamp.node]
@[ext] structure Msg where
  kind : Int
  fr : Int
  to : Int
  txn : Txn
  range : Int
  epoch : Int
  code : Int
  stamp : Stamp
  prev : Stamp
  commit : Bool
  n : Int
  mx : Int
  keys : List BA
  seen : List SeenD
  writes : List KV
  parts : List Int
  ranges : List Rng
  recs : List Rec
  state : State
  deriving DecidableEq
abbrev Msg.l (m : Msg) (vk vs vw vp vr vc vh vd : Value) : List Value := [I m.kind, I m.fr, I m.to, I m.txn.coord, I m.txn.life, I m.txn.sq, I m.range, I m.epoch, I m.code,
  I m.stamp.wall, I m.stamp.logic, I m.stamp.node, I m.prev.wall, I m.prev.logic, I m.prev.node, B m.commit, I m.n, I m.mx, vk, vs, vw, vp, vr, vc,
  I m.state.range.id, I m.state.range.epoch, .float .f64 m.state.range.lo, .float .f64 m.state.range.hi,
  I m.state.floor.wall, I m.state.floor.logic, I m.state.floor.node, I m.state.closed.wall, I m.state.closed.logic, I m.state.closed.node, vh, vd]
abbrev Msg.v (m : Msg) (vk vs vw vp vr vc vh vd : Value) : Value := .agg #[I m.kind, I m.fr, I m.to, I m.txn.coord, I m.txn.life, I m.txn.sq, I m.range, I m.epoch, I m.code,
  I m.stamp.wall, I m.stamp.logic, I m.stamp.node, I m.prev.wall, I m.prev.logic, I m.prev.node, B m.commit, I m.n, I m.mx, vk, vs, vw, vp, vr, vc,
  I m.state.range.id, I m.state.range.epoch, .float .f64 m.state.range.lo, .float .f64 m.state.range.hi,
  I m.state.floor.wall, I m.state.floor.logic, I m.state.floor.node, I m.state.closed.wall, I m.state.closed.logic, I m.state.closed.node, vh, vd]
structure Msg.at (w : World) (X : XS) (m : Msg) (vk vs vw vp vr vc vh vd : Value) : Prop where
  keys : Sl w X 1 vk (m.keys.map S1)
  seen : Sl w X 7 vs (m.seen.map SeenD.l)
  writes : Sl w X 4 vw (m.writes.map KV.l)
  parts : Sl w X 1 vp (m.parts.map I1)
  ranges : Sl w X 4 vr (m.ranges.map Rng.l)
  recs : Rws w X 29 vc Rec.rd m.recs
  hists : Hists w X vh m.state.hists
  pend : Pends w X vd m.state.pend
theorem Msg.at.mv {w w' : World} {X Y : XS} {m : Msg} {vk vs vw vp vr vc vh vd : Value} (h : m.at w X vk vs vw vp vr vc vh vd) (v : Mv X w Y w') : m.at w' Y vk vs vw vp vr vc vh vd :=
  ⟨h.keys.mv v, h.seen.mv v, h.writes.mv v, h.parts.mv v, h.ranges.mv v, Rws.mv h.recs Rec.mv v, Rws.mv h.hists Hist.mv v, Rws.mv h.pend Pend.mv v⟩
def Msg.rd (w : World) (X : XS) (l : List Value) (m : Msg) : Prop := ∃ vk vs vw vp vr vc vh vd, l = m.l vk vs vw vp vr vc vh vd ∧ m.at w X vk vs vw vp vr vc vh vd
theorem Msg.mv : Moves Msg.rd := fun ⟨vk, vs, vw, vp, vr, vc, vh, vd, h, h1⟩ m => ⟨vk, vs, vw, vp, vr, vc, vh, vd, h, h1.mv m⟩
theorem d_msgs_rise {w : World} {X : XS} {a : Value} {xs : List BA} (ha : Sl w X 1 a (xs.map S1)) :
    Ct Tryz.prog 239 #[a] w X nX fun v _ _ => v = B (rises xs) := by
  intro w0 hk
  replace ha := ha.mv hk.mvo
  have hla := ha.len'
  apply ok_msgs_rise; unfold vc_msgs_rise
  have hs := Since.init w0
  repeat' first | ((with_reducible apply m_lnS); (· exact qO); (· kernel_rfl))
  refine lp1_of (fun n a w X => ∃ i : Nat, a = I (i : Nat) ∧ n = (xs).length - i ∧ i ≤ (xs).length ∧ Since (old w0) w0 X w ∧ chain goodKey tlt none xs = chain goodKey tlt (prevOf xs i) (xs.drop i)) (xs).length ⟨0, rfl, rfl, Nat.zero_le _, hs, by simp [prevOf]⟩ ?_
  rintro n a w X ⟨i, rfl, rfl, hi, hs, hw⟩
  rcases at_or (xs) i with ⟨hlt, x, hx, hd⟩ | ⟨hge, hd⟩
  · rcases at_prev hlt with ⟨h0, hp⟩ | ⟨h0, y, hy, hp⟩ <;> rw [hp, hd, chain] at hw <;> clear hd
    · repeat' first | ((with_reducible refine r_lssT ?_ ?_); (· omega)) | ((with_reducible refine r_gtrF ?_ ?_); (· omega)) | with_reducible (first | apply condW_T | apply condW_F | apply un_selF | apply un_selTF | apply un_selFT | apply un_selU | apply grdV_onF | apply grdW_onF | apply grdW_offT | apply grdW_offF | apply grdW_U | apply rdW_pickT | apply rdW_pickF | apply r_notT | apply r_notF) | ((with_reducible apply m_ld1); (· exact qF); (· exact qM); (· kernel_rfl); (· rfl)) | ((with_reducible apply m_ixS); (· exact qO); (try (case hz => rfl)); (case hr => exact qR); (try (case hz => omega)); (case ht => kernel_rfl); (case hs => kernel_rfl); intro _ _ _) | ((with_reducible apply r_add); (· omega); (· omega)) | ((with_reducible refine r_pureB (c_datum_Key _) ?_ hs.has ?_ ?_); (· kernel_rfl); all_goals (intro _ w X hs1; replace hs := hs.trans hs1)) | ((first | (with_reducible refine fin_ret0 hs ?_) | (with_reducible refine fin_ret0 (hs0.trans hs) ?_)); intro wa hk; simp_all [rises, rising, chain]) | ((with_reducible refine nx1_of ((xs).length - (i + 1)) ?_ ?_); (· omega); exact ⟨i + 1, by simp, rfl, by omega, hs, by rw [hw, prevOf_succ hx]; simp [*]⟩)
    · repeat' first | ((with_reducible refine r_lssT ?_ ?_); (· omega)) | ((with_reducible refine r_gtrT ?_ ?_); (· omega)) | with_reducible (first | apply condW_T | apply condW_F | apply un_selT | apply un_selF | apply un_selTF | apply un_selU | apply grdV_onT | apply grdV_onF | apply grdW_onF | apply grdW_offF | apply grdW_U | apply rdW_pickT | apply rdW_pickF | apply r_notT | apply r_notF) | (with_reducible apply r_sgeq <;> intro _) | ((with_reducible apply m_ld1); (· exact qF); (· exact qM); (· kernel_rfl); (· rfl)) | ((with_reducible apply m_ixS); (· exact qO); (try (case hz => rfl)); (case hr => exact qR); (try (case hz => omega)); (case ht => kernel_rfl); (case hs => kernel_rfl); intro _ _ _) | ((with_reducible apply r_add); (· omega); (· omega)) | ((with_reducible apply r_sub); (· omega); (· omega)) | ((with_reducible refine r_pureB (c_datum_Key _) ?_ hs.has ?_ ?_); (· kernel_rfl); all_goals (intro _ w X hs1; replace hs := hs.trans hs1)) | ((first | (with_reducible refine fin_ret0 hs ?_) | (with_reducible refine fin_ret0 (hs0.trans hs) ?_)); intro wa hk; simp_all [rises, rising, chain]) | ((with_reducible refine nx1_of ((xs).length - (i + 1)) ?_ ?_); (· omega); exact ⟨i + 1, by simp, rfl, by omega, hs, by rw [hw, prevOf_succ hx]; simp [*]⟩)
  · repeat' first | ((with_reducible refine r_lssF ?_ ?_); (· omega)) | with_reducible apply condW_F | (with_reducible apply r_leq <;> intro _) | ((with_reducible apply m_lnS); (· exact qO); (· kernel_rfl)) | ((first | (with_reducible refine fin_ret0 hs ?_) | (with_reducible refine fin_ret0 (hs0.trans hs) ?_)); intro wa hk; simp_all [rises, rising, chain] <;> omega)
def SeenD.may (x : SeenD) : Bool := x.stamp.may && x.val.may && !(decide (x.stamp = .zero) && decide (x.val.kind ≠ 0))
def seenOk (l : List SeenD) : Bool := l.all SeenD.may && rises (l.map (·.key))
theorem d_msgs_seen {w : World} {X : XS} {a : Value} {xs : List SeenD} (ha : Sl w X 7 a (xs.map SeenD.l)) (hb : xs.length ≤ 2 ^ 40) :
    Ct Tryz.prog 241 #[a] w X nX fun v _ _ => v = B (seenOk xs) := by
  intro w0 hk
  replace ha := ha.mv hk.mvo
  have hla := ha.len'
  apply ok_msgs_seen; unfold vc_msgs_seen
  have hs := Since.init w0
  repeat' first | ((with_reducible apply m_lnS); (· exact qO); (· kernel_rfl))
  refine lp2_of (fun n a b w X => ∃ i : Nat, a = I i ∧ n = xs.length - i ∧ i ≤ xs.length ∧ Since (old w0) w0 X w ∧ Own w X w0.heap.size 9 1 b (((xs.take i).map (·.key)).map S1) ∧ xs.all SeenD.may = (xs.drop i).all SeenD.may) xs.length ⟨0, rfl, rfl, Nat.zero_le _, hs, Own.nil _ _ _ _ _, by simp⟩ ?_
  rintro n a b w X ⟨i, rfl, rfl, hi, hs, ho, hw⟩
  rcases at_or (xs) i with ⟨hlt, x, hx, hd⟩ | ⟨hge, hd⟩
  · rw [hd, List.all_cons] at hw
    have hr0 : ∀ q : Bool, q = false → x.may = q → seenOk xs = false := fun q hq h => by simp [seenOk, hw, h, hq]
    repeat' first | ((with_reducible refine r_lssT ?_ ?_); (· omega)) | with_reducible (first | apply condW_T | apply condW_F) | ((with_reducible apply un_cell); (· rfl)) | ((with_reducible apply m_sub); (· exact qN)) | with_reducible (first | apply un_box | apply un_selT | apply un_selF | apply un_selTF | apply un_selFT | apply un_selU | apply grdV_onT | apply grdV_onF | apply grdW_onF | apply grdW_offT | apply grdW_offF | apply grdW_U | apply rdW_pickT | apply rdW_pickF | apply gE_F | apply gE_TF | apply r_notT | apply r_notF) | (with_reducible apply r_neq <;> intro _) | ((with_reducible apply m_ldA); (· exact qF); (· exact qM); (· kernel_rfl); (· rfl)) | ((with_reducible apply m_ixS); (· exact qO); (try (case hz => rfl)); (case hr => exact qR); (try (case hz => omega)); (case ht => kernel_rfl); (case hs => kernel_rfl); intro _ _ _) | ((with_reducible apply r_bld); (· kernel_rfl)) | ((with_reducible refine r_eqS0 _ ?_ ?_ ?_); (· kernel_rfl); all_goals intros) | ((with_reducible apply m_chkc); (case h => exact qE)) | ((with_reducible apply chk_T); (· exact qC)) | ((with_reducible apply r_add); (· omega); (· omega)) | ((with_reducible apply m_app1s); (case own => first | assumption | exact Own.since (by assumption) (by assumption)); (case hs => assumption); (case h0 => first | exact fun _ h => h | exact hs0.has); (case he => kernel_rfl); (case hk => rfl); (case ho => first | rfl | assumption); (case hb => (simp only [List.length_map, List.length_take, List.length_append, List.length_cons, List.length_nil]; omega)); (case hl => (simp only [List.length_map, List.length_take, List.length_append, List.length_cons, List.length_nil]; omega)); intro acc w X hs1 ho hc hat; replace hs := hs1) | with_reducible apply jn_of | ((with_reducible refine r_pureB (c_datum_May _) ?_ hs.has ?_ ?_); (· kernel_rfl); all_goals (intro _ w X hs1; replace hs := hs.trans hs1)) | ((with_reducible refine r_pureB (c_hlc_May _) ?_ hs.has ?_ ?_); (· kernel_rfl); all_goals (intro _ w X hs1; replace hs := hs.trans hs1)) | ((first | (with_reducible refine fin_ret0 hs ?_) | (with_reducible refine fin_ret0 (hs0.trans hs) ?_)); intro wa hk; (exact (congrArg B (hr0 false rfl (by clear hr0; grind [SeenD.may]))).symm)) | ((with_reducible refine nx2_of ((xs).length - (i + 1)) ?_ ?_); (· omega); exact ⟨i + 1, by simp, rfl, by omega, hs, by rw [List.take_add_one, hx]; simp only [Option.toList_some, List.map_append, List.map_cons, List.map_nil]; (first | exact Own.since ho (by assumption) | exact Own.since (Own.since ho (by assumption)) (by assumption)), by rw [hw]; clear hr0; grind [SeenD.may]⟩)
  · rw [hd] at hw
    rw [List.take_of_length_le hge] at ho
    repeat' first | ((with_reducible refine r_lssF ?_ ?_); (· omega)) | with_reducible apply condW_F | ((first | (with_reducible refine fin_ret0 hs ?_) | (with_reducible refine fin_ret0 (hs0.trans hs) ?_)); intro wa hk; (rename_i h; simp [seenOk, hw, h])) | (refine r_ct0B (d_msgs_rise  (Own.sl ho)) (by kernel_rfl) hs.has ?_ ?_ <;> (intro _ w X hs1; replace hs := hs.trans hs1))
theorem d_msgs_written {w : World} {X : XS} {a : Value} {xs : List KV} (ha : Sl w X 4 a (xs.map KV.l)) (hb : xs.length ≤ 2 ^ 40) :
    Ct Tryz.prog 242 #[a] w X nX fun v _ _ => v = B (rowsOk xs) := by
  intro w0 hk
  replace ha := ha.mv hk.mvo
  have hla := ha.len'
  apply ok_msgs_written; unfold vc_msgs_written
  have hs := Since.init w0
  repeat' first | ((with_reducible apply m_lnS); (· exact qO); (· kernel_rfl))
  refine lp2_of (fun n a b w X => ∃ i : Nat, a = I i ∧ n = xs.length - i ∧ i ≤ xs.length ∧ Since (old w0) w0 X w ∧ Own w X w0.heap.size 9 1 b (((xs.take i).map (·.key)).map S1) ∧ xs.all (·.val.may) = (xs.drop i).all (·.val.may)) xs.length ⟨0, rfl, rfl, Nat.zero_le _, hs, Own.nil _ _ _ _ _, by simp⟩ ?_
  rintro n a b w X ⟨i, rfl, rfl, hi, hs, ho, hw⟩
  rcases at_or (xs) i with ⟨hlt, x, hx, hd⟩ | ⟨hge, hd⟩
  · rw [hd, List.all_cons] at hw
    have hr0 : x.val.may = false → rowsOk xs = false := fun h => by simp [rowsOk, hw, h]
    repeat' first | ((with_reducible refine r_lssT ?_ ?_); (· omega)) | with_reducible (first | apply condW_T | apply condW_F) | ((with_reducible apply un_cell); (· rfl)) | ((with_reducible apply m_sub); (· exact qN)) | with_reducible (first | apply un_box | apply r_notT | apply r_notF) | ((with_reducible apply m_ldA); (· exact qF); (· exact qM); (· kernel_rfl); (· rfl)) | ((with_reducible apply m_ixS); (· exact qO); (try (case hz => rfl)); (case hr => exact qR); (try (case hz => omega)); (case ht => kernel_rfl); (case hs => kernel_rfl); intro _ _ _) | ((with_reducible apply m_chkc); (case h => exact qE)) | ((with_reducible apply chk_T); (· exact qC)) | ((with_reducible apply r_add); (· omega); (· omega)) | ((with_reducible apply m_app1s); (case own => first | assumption | exact Own.since (by assumption) (by assumption)); (case hs => assumption); (case h0 => first | exact fun _ h => h | exact hs0.has); (case he => kernel_rfl); (case hk => rfl); (case ho => first | rfl | assumption); (case hb => (simp only [List.length_map, List.length_take, List.length_append, List.length_cons, List.length_nil]; omega)); (case hl => (simp only [List.length_map, List.length_take, List.length_append, List.length_cons, List.length_nil]; omega)); intro acc w X hs1 ho hc hat; replace hs := hs1) | ((with_reducible refine r_pureB (c_datum_May _) ?_ hs.has ?_ ?_); (· kernel_rfl); all_goals (intro _ w X hs1; replace hs := hs.trans hs1)) | ((first | (with_reducible refine fin_ret0 hs ?_) | (with_reducible refine fin_ret0 (hs0.trans hs) ?_)); intro wa hk; (exact (congrArg B (hr0 (by assumption))).symm)) | ((with_reducible refine nx2_of ((xs).length - (i + 1)) ?_ ?_); (· omega); exact ⟨i + 1, by simp, rfl, by omega, hs, by rw [List.take_add_one, hx]; simp only [Option.toList_some, List.map_append, List.map_cons, List.map_nil]; exact Own.since ho (by assumption), by rw [hw]; clear hr0; simp [*]⟩)
  · rw [hd] at hw
    rw [List.take_of_length_le hge] at ho
    repeat' first | ((with_reducible refine r_lssF ?_ ?_); (· omega)) | with_reducible apply condW_F | ((first | (with_reducible refine fin_ret0 hs ?_) | (with_reducible refine fin_ret0 (hs0.trans hs) ?_)); intro wa hk; (rename_i h; simp [rowsOk, hw, h])) | (refine r_ct0B (d_msgs_rise  (Own.sl ho)) (by kernel_rfl) hs.has ?_ ?_ <;> (intro _ w X hs1; replace hs := hs.trans hs1))
def coverOk (l : List Rng) : Bool := l.all Rng.may && decide ((l.length : Int) ≤ 12)
theorem d_msgs_cover {w : World} {X : XS} {a : Value} {xs : List Rng} (ha : Sl w X 4 a (xs.map Rng.l)) :
    Ct Tryz.prog 313 #[a] w X nX fun v _ _ => v = B (coverOk xs) := by
  intro w0 hk
  replace ha := ha.mv hk.mvo
  have hla := ha.len'
  apply ok_msgs_cover; unfold vc_msgs_cover
  have hs := Since.init w0
  repeat' first | ((with_reducible apply m_lnS); (· exact qO); (· kernel_rfl))
  refine lp1_of (fun n a w X => ∃ i : Nat, a = I (i : Nat) ∧ n = (xs).length - i ∧ i ≤ (xs).length ∧ Since (old w0) w0 X w ∧ xs.all Rng.may = (xs.drop i).all Rng.may) (xs).length ⟨0, rfl, rfl, Nat.zero_le _, hs, by simp⟩ ?_
  rintro n a w X ⟨i, rfl, rfl, hi, hs, hw⟩
  rcases at_or (xs) i with ⟨hlt, x, hx, hd⟩ | ⟨hge, hd⟩
  · rw [hd, List.all_cons] at hw
    repeat' first | ((with_reducible refine r_lssT ?_ ?_); (· omega)) | with_reducible (first | apply condW_T | apply condW_F) | ((with_reducible apply m_sub); (· exact qN)) | with_reducible (first | apply un_box | apply r_notT | apply r_notF) | ((with_reducible apply m_ldA); (· exact qF); (· exact qM); (· kernel_rfl); (· rfl)) | ((with_reducible apply m_ixS); (· exact qO); (try (case hz => rfl)); (case hr => exact qR); (try (case hz => omega)); (case ht => kernel_rfl); (case hs => kernel_rfl); intro _ _ _) | ((with_reducible apply m_chkc); (case h => exact qE)) | ((with_reducible apply chk_T); (· exact qC)) | ((with_reducible apply r_add); (· omega); (· omega)) | ((with_reducible refine r_pureB (c_place_May _) ?_ hs.has ?_ ?_); (· kernel_rfl); all_goals (intro _ w X hs1; replace hs := hs.trans hs1)) | ((first | (with_reducible refine fin_ret0 hs ?_) | (with_reducible refine fin_ret0 (hs0.trans hs) ?_)); intro wa hk; (simp [coverOk, hw, *])) | ((with_reducible refine nx1_of ((xs).length - (i + 1)) ?_ ?_); (· omega); exact ⟨i + 1, by simp, rfl, by omega, hs, by rw [hw]; simp [*]⟩)
  · rw [hd] at hw
    repeat' first | ((with_reducible refine r_lssF ?_ ?_); (· omega)) | with_reducible apply condW_F | (with_reducible apply r_leq <;> intro _) | ((with_reducible apply m_lnS); (· exact qO); (· kernel_rfl)) | ((first | (with_reducible refine fin_ret0 hs ?_) | (with_reducible refine fin_ret0 (hs0.trans hs) ?_)); intro wa hk; (simp_all [coverOk]))
def codeOk (c : Int) (fine : Bool) (l : List Rng) : Bool := if c = 0 then fine && decide (l = []) else decide (c > 0) && decide (c ≤ 25) && coverOk l
theorem d_msgs_code {w : World} {X : XS} {c : Int} {fine : Bool} {a : Value} {xs : List Rng} (ha : Sl w X 4 a (xs.map Rng.l)) :
    Ct Tryz.prog 240 #[I c, B fine, a] w X nX fun v _ _ => v = B (codeOk c fine xs) := by
  intro w0 hk
  replace ha := ha.mv hk.mvo
  have hla := ha.len'
  have hnil : xs.length = 0 ↔ xs = [] := List.length_eq_zero_iff
  apply ok_msgs_code; unfold vc_msgs_code
  have hs := Since.init w0
  cases fine <;>
  repeat' first | with_reducible (first | apply condW_T | apply condW_F | apply un_selT | apply un_selFT | apply grdV_onT | apply grdW_offT | apply rdW_pickT | apply rdW_pickF | apply gE_T | apply gE_FT) | (with_reducible apply r_eql <;> intro _) | (with_reducible apply r_leq <;> intro _) | (with_reducible apply r_gtr <;> intro _) | ((with_reducible apply m_lnS); (· exact qO); (· kernel_rfl)) | with_reducible apply jn_of | ((first | (with_reducible refine fin_ret0 hs ?_) | (with_reducible refine fin_ret0 (hs0.trans hs) ?_)); intro wa hk; (simp_all [codeOk] <;> omega)) | (refine r_ct0B (d_msgs_cover  qA) (by kernel_rfl) hs.has ?_ ?_ <;> (intro _ w X hs1; replace hs := hs.trans hs1))
def hasNo (l : List Int) (n : Int) : Bool := l.any fun x => decide (x = n)
theorem d_msgs_has {w : World} {X : XS} {z : Int} {a : Value} {xs : List Int} (ha : Sl w X 1 a (xs.map I1)) :
    Ct Tryz.prog 244 #[a, I z] w X nX fun v _ _ => v = B (hasNo xs z) := by
  intro w0 hk
  replace ha := ha.mv hk.mvo
  have hla := ha.len'
  apply ok_msgs_has; unfold vc_msgs_has
  have hs := Since.init w0
  repeat' first | ((with_reducible apply m_lnS); (· exact qO); (· kernel_rfl))
  refine lp1_of (fun n a w X => ∃ i : Nat, a = I (i : Nat) ∧ n = (xs).length - i ∧ i ≤ (xs).length ∧ Since (old w0) w0 X w ∧ hasNo xs z = hasNo (xs.drop i) z) (xs).length ⟨0, rfl, rfl, Nat.zero_le _, hs, by simp⟩ ?_
  rintro n a w X ⟨i, rfl, rfl, hi, hs, hw⟩
  rcases at_or (xs) i with ⟨hlt, x, hx, hd⟩ | ⟨hge, hd⟩
  · rw [hd] at hw
    repeat' first | ((with_reducible refine r_lssT ?_ ?_); (· omega)) | with_reducible (first | apply condW_T | apply condW_F) | (with_reducible apply r_eql <;> intro _) | ((with_reducible apply m_ld1); (· exact qF); (· exact qM); (· kernel_rfl); (· rfl)) | ((with_reducible apply m_ixS); (· exact qO); (try (case hz => rfl)); (case hr => exact qR); (try (case hz => omega)); (case ht => kernel_rfl); (case hs => kernel_rfl); intro _ _ _) | ((with_reducible apply r_add); (· omega); (· omega)) | ((first | (with_reducible refine fin_ret0 hs ?_) | (with_reducible refine fin_ret0 (hs0.trans hs) ?_)); intro wa hk; (rw [hw]; simp [hasNo, *])) | ((with_reducible refine nx1_of ((xs).length - (i + 1)) ?_ ?_); (· omega); exact ⟨i + 1, by simp, rfl, by omega, hs, by rw [hw]; simp [hasNo, *]⟩)
  · rw [hd] at hw
    repeat' first | ((with_reducible refine r_lssF ?_ ?_); (· omega)) | with_reducible apply condW_F | ((first | (with_reducible refine fin_ret0 hs ?_) | (with_reducible refine fin_ret0 (hs0.trans hs) ?_)); intro wa hk; (rw [hw]; rfl))
def batchOk (l : List Rec) : Bool := l.all (fun r => decide (r.encErr = 0)) && decide ((l.length : Int) ≤ 8)
theorem d_msgs_batch {w : World} {X : XS} {a : Value} {xs : List Rec} (ha : Rws w X 29 a Rec.rd xs) (hsm : ∀ r ∈ xs, r.small) (hok : ∀ r ∈ xs, r.err = 0 → (encR r).length ≤ 2 ^ 33) :
    Ct Tryz.prog 166 #[a] w X nX fun v _ _ => v = B (batchOk xs) := by
  intro w0 hk
  replace ha := Rws.mv ha Rec.mv hk.mvo
  have hla := ha.len
  apply ok_msgs_batch; unfold vc_msgs_batch
  have hs := Since.init w0
  repeat' first | ((with_reducible apply m_lnR); (· assumption); (· kernel_rfl))
  refine lp1_of (fun n a w X => ∃ i : Nat, a = I (i : Nat) ∧ n = (xs).length - i ∧ i ≤ (xs).length ∧ Since (old w0) w0 X w ∧ xs.all (fun r => decide (r.encErr = 0)) = (xs.drop i).all (fun r => decide (r.encErr = 0))) (xs).length ⟨0, rfl, rfl, Nat.zero_le _, hs, by simp⟩ ?_
  rintro n a w X ⟨i, rfl, rfl, hi, hs, hw⟩
  rcases at_or (xs) i with ⟨hlt, x, hx, hd⟩ | ⟨hge, hd⟩
  · rw [hd, List.all_cons] at hw
    have hxm := List.mem_of_getElem? hx
    repeat' first | ((with_reducible refine r_lssT ?_ ?_); (· omega)) | with_reducible apply condW_T | ((with_reducible apply m_sub); (· exact qN)) | with_reducible apply un_box | ((with_reducible apply m_ldA); (· exact qF); (· exact qM); (· kernel_rfl); (· rfl)) | ((with_reducible apply m_ixRec); (· assumption); (try (case hz => rfl)); (case hr => exact qR); (try (case hz => omega)); (case ht => kernel_rfl); (case hs => kernel_rfl); intros) | ((with_reducible apply m_chkc); (case h => exact qE)) | ((with_reducible apply chk_T); (· exact qC))
    refine r_ct0 (d_recs_Encode (r := x) (Rec.at.mv (by assumption) hs.mv) (hsm x hxm) (hok x hxm)) (by kernel_rfl) hs.has ?_
    rintro v wa w2 X2 hq hle hin hs2
    replace hs := hs.trans hs2
    by_cases he : x.encErr = 0
    · rw [if_neg (by omega)] at hq
      obtain ⟨vb, rfl, _⟩ := hq
      repeat' first | ((with_reducible refine r_neqF ?_ ?_); (· omega)) | with_reducible apply condW_F | ((with_reducible apply m_ext); (· rfl)) | ((with_reducible apply r_add); (· omega); (· omega)) | ((with_reducible refine nx1_of ((xs).length - (i + 1)) ?_ ?_); (· omega); exact ⟨i + 1, by simp, rfl, by omega, hs, by rw [hw]; simp [he]⟩)
    · rw [if_pos he] at hq
      subst hq
      repeat' first | ((with_reducible refine r_neqT ?_ ?_); (· omega)) | with_reducible apply condW_T | ((with_reducible apply m_ext); (· rfl)) | ((first | (with_reducible refine fin_ret0 hs ?_) | (with_reducible refine fin_ret0 (hs0.trans hs) ?_)); intro wa hk; (simp [batchOk, hw, he]))
  · rw [hd] at hw
    repeat' first | ((with_reducible refine r_lssF ?_ ?_); (· omega)) | with_reducible apply condW_F | (with_reducible apply r_leq <;> intro _) | ((with_reducible apply m_lnR); (· assumption); (· kernel_rfl)) | ((first | (with_reducible refine fin_ret0 hs ?_) | (with_reducible refine fin_ret0 (hs0.trans hs) ?_)); intro wa hk; (simp_all [batchOk]))
end Go.Proofs.YtpdkoaklobnegaaGreat
namespace Go.Proofs.YtpdkoaklobnegaaGreat
open Go.Eng
set_option maxRecDepth 100000
set_option maxHeartbeats 1000000
set_option linter.unusedVariables false
set_option linter.unusedSimpArgs false
attribute [local irreducible] un jn chk fld ld1 ldA st1 ixS lnS lnT bld cvI cvF ixA bsS apS rdV rdW grdW eW eV eU eC eF gE condW fin pickN nilN binS vS lp0 lp1 lp2 lp3 lp4 lp5 lp6 lp7 nx0 nx1 nx2 nx3 nx4 nx5 nx6 nx7
structure Msg.small (m : Msg) : Prop where
  seen : m.seen.length ≤ 2 ^ 40
  writes : m.writes.length ≤ 2 ^ 40
  recs : ∀ r ∈ m.recs, r.small
  enc : ∀ r ∈ m.recs, r.err = 0 → (encR r).length ≤ 2 ^ 33
  state : m.state.small
def Msg.dealtOk (m : Msg) : Bool := m.txn.may && rangeNo m.range && (
  if m.kind = 1 then decide (m.epoch ≥ 0) && m.stamp.may && rises m.keys && decide ((m.keys.length : Int) > 0)
  else if m.kind = 2 then codeOk m.code (seenOk m.seen && decide ((m.seen.length : Int) > 0)) m.ranges && m.stamp.may && (decide (m.code = 0) || decide ((m.seen.length : Int) = 0))
  else if m.kind = 3 then decide (m.epoch ≥ 0) && m.stamp.may && seenOk m.seen && rowsOk m.writes && partsOk m.parts && hasNo m.parts m.range
  else if m.kind = 4 then codeOk m.code true m.ranges && m.stamp.may
  else if m.kind = 5 then (if m.commit then m.stamp.may && decide (m.stamp ≠ .zero) else decide (m.stamp = .zero))
  else true)
theorem d_msgs_dealt {w : World} {X : XS} {m : Msg} {vk vs vw vp vr vc vh vd : Value} (h : m.at w X vk vs vw vp vr vc vh vd) (hsm : m.small) :
    Ct Tryz.prog 164 #[m.v vk vs vw vp vr vc vh vd] w X nX fun v _ _ => v = B m.dealtOk := by
  intro w0 hk
  replace h := h.mv hk.mvo
  obtain ⟨h1, h2, h3, h4, h5, h6, h7, h8⟩ := h
  obtain ⟨b1, n1, c1, rfl⟩ := h1.form
  obtain ⟨b2, n2, c2, rfl⟩ := h2.form
  obtain ⟨b3, n3, c3, rfl⟩ := h3.form
  obtain ⟨b4, n4, c4, rfl⟩ := h4.form
  obtain ⟨b5, n5, c5, rfl⟩ := h5.form
  apply ok_msgs_dealt; unfold vc_msgs_dealt
  have hs := Since.init w0
  repeat' first | with_reducible (first | apply condW_T | apply condW_F | apply un_selT | apply un_selF | apply un_selTF | apply un_selFT | apply un_selU | apply grdV_onT | apply grdV_onF | apply grdW_onT | apply grdW_offT | apply grdW_offF | apply grdW_U | apply rdW_pickT | apply rdW_pickF | apply gE_T | apply gE_F | apply gE_TF | apply gE_FT | apply r_notT | apply r_notF) | (with_reducible apply r_eql <;> intro _) | (with_reducible apply r_gtr <;> intro _) | (with_reducible apply r_geq <;> intro _) | ((with_reducible apply m_lnS); (· exact qO); (· kernel_rfl)) | ((with_reducible apply r_bld); (· kernel_rfl)) | ((with_reducible refine r_eqS0 _ ?_ ?_ ?_); (· kernel_rfl); all_goals intros) | ((with_reducible refine r_neS0 _ ?_ ?_ ?_); (· kernel_rfl); all_goals intros) | with_reducible apply jn_of | (with_reducible apply condW_b <;> intro _) | ((with_reducible refine r_pureB (c_msgs_ranges _) ?_ hs.has ?_ ?_); (· kernel_rfl); all_goals (intro _ w X hs1; replace hs := hs.trans hs1)) | ((with_reducible refine r_pureB (c_hlc_May _) ?_ hs.has ?_ ?_); (· kernel_rfl); all_goals (intro _ w X hs1; replace hs := hs.trans hs1)) | ((with_reducible refine r_pureB (c_mvcc_TxnMay _) ?_ hs.has ?_ ?_); (· kernel_rfl); all_goals (intro _ w X hs1; replace hs := hs.trans hs1)) | (refine r_ct0B (d_msgs_rise  qA) (by kernel_rfl) hs.has ?_ ?_ <;> (intro _ w X hs1; replace hs := hs.trans hs1)) | (refine r_ct0B (d_msgs_seen  qA hsm.seen) (by kernel_rfl) hs.has ?_ ?_ <;> (intro _ w X hs1; replace hs := hs.trans hs1)) | (refine r_ct0B (d_msgs_written  qA hsm.writes) (by kernel_rfl) hs.has ?_ ?_ <;> (intro _ w X hs1; replace hs := hs.trans hs1)) | (refine r_ct0B (d_recs_Parts  qA) (by kernel_rfl) hs.has ?_ ?_ <;> (intro _ w X hs1; replace hs := hs.trans hs1)) | (refine r_ct0B (d_msgs_has  qA) (by kernel_rfl) hs.has ?_ ?_ <;> (intro _ w X hs1; replace hs := hs.trans hs1)) | (refine r_ct0B ((d_msgs_code (xs := m.ranges))  qA) (by kernel_rfl) hs.has ?_ ?_ <;> (intro _ w X hs1; replace hs := hs.trans hs1))
  all_goals
    (with_reducible refine fin_ret0 hs ?_)
    intro wa hk9
    unfold Msg.dealtOk
    repeat (first | rw [if_pos (by omega)] | rw [if_neg (by omega)])
    simp_all [rangeNo] <;> first | omega | (rename_i z9; intro e9; simp [e9] at z9; done) | (intro e9; simp_all; done) | grind
def Msg.fieldsOk (m : Msg) : Bool :=
  if 1 ≤ m.kind ∧ m.kind ≤ 7 then m.dealtOk
  else if m.kind = 8 then rangeNo m.range && decide (m.n ≥ 1) && decide (m.mx ≥ 0) && decide (m.mx ≤ 8) && m.stamp.may
  else if m.kind = 9 then rangeNo m.range && decide (m.n ≥ 1) && batchOk m.recs
  else if m.kind = 10 then rangeNo m.range && m.state.may && decide (m.state.range.id = m.range)
  else if m.kind = 11 then rangeNo m.range
  else if m.kind = 12 then applyOk m.prev m.stamp m.txn m.writes
  else if m.kind = 14 then m.stamp.may
  else true
theorem d_msgs_fieldsM {w : World} {X : XS} {m : Msg} {vk vs vw vp vr vc vh vd : Value} (h : m.at w X vk vs vw vp vr vc vh vd) (hsm : m.small) :
    Ct Tryz.prog 102 #[m.v vk vs vw vp vr vc vh vd] w X nX fun v _ _ => v = B m.fieldsOk := by
  intro w0 hk
  replace h := h.mv hk.mvo
  obtain ⟨h1, h2, h3, h4, h5, h6, h7, h8⟩ := id h
  obtain ⟨b3, n3, c3, rfl⟩ := h3.form
  apply ok_msgs_fields; unfold vc_msgs_fields
  have hs := Since.init w0
  repeat' first | with_reducible (first | apply condW_T | apply condW_F | apply un_selT | apply un_selFT | apply grdV_onT | apply grdW_offT | apply rdW_pickT | apply rdW_pickF | apply gE_T | apply gE_FT) | (with_reducible apply r_eql <;> intro _) | (with_reducible apply r_leq <;> intro _) | (with_reducible apply r_geq <;> intro _) | with_reducible apply jn_of | ((with_reducible refine r_pureB (c_msgs_ranges _) ?_ hs.has ?_ ?_); (· kernel_rfl); all_goals (intro _ w X hs1; replace hs := hs.trans hs1)) | ((with_reducible refine r_pureB (c_hlc_May _) ?_ hs.has ?_ ?_); (· kernel_rfl); all_goals (intro _ w X hs1; replace hs := hs.trans hs1)) | (refine r_ct0B ((d_msgs_dealt (m := m))  (h.mv (Since.mv hs)) hsm) (by kernel_rfl) hs.has ?_ ?_ <;> (intro _ w X hs1; replace hs := hs.trans hs1)) | (refine r_ct0B ((d_msgs_batch (xs := m.recs))  (Rws.mv h6 Rec.mv (Since.mv hs)) hsm.recs hsm.enc) (by kernel_rfl) hs.has ?_ ?_ <;> (intro _ w X hs1; replace hs := hs.trans hs1)) | (refine r_ct0B (d_recs_StateMay  (s := m.state) qA qA hsm.state) (by kernel_rfl) hs.has ?_ ?_ <;> (intro _ w X hs1; replace hs := hs.trans hs1)) | (refine r_ct0B ((d_recs_Apply (l := m.writes))  qA hsm.writes) (by kernel_rfl) hs.has ?_ ?_ <;> (intro _ w X hs1; replace hs := hs.trans hs1))
  all_goals
    (with_reducible refine fin_ret0 hs ?_)
    intro wa hk9
    unfold Msg.fieldsOk
    repeat (first | rw [if_pos (by omega)] | rw [if_neg (by omega)])
    try (simp_all [rangeNo] <;> first | omega | grind)
def Msg.isZero (m : Msg) : Bool := decide (m.txn = .zero) && decide (m.range = 0) && decide (m.epoch = 0) && decide (m.code = 0) && decide (m.stamp = .zero) && decide (m.prev = .zero) && !m.commit && decide (m.n = 0) && decide (m.mx = 0) &&
  m.state.isZero && decide ((m.keys.length : Int) + m.seen.length + m.writes.length + m.parts.length + m.ranges.length + m.recs.length = 0)
theorem d_msgs_zeroM {w : World} {X : XS} {m : Msg} {vk vs vw vp vr vc vh vd : Value} (h : m.at w X vk vs vw vp vr vc vh vd) (hln : m.keys.length + m.seen.length + m.writes.length + m.parts.length + m.ranges.length + m.recs.length ≤ 2 ^ 62) :
    Ct Tryz.prog 101 #[m.v vk vs vw vp vr vc vh vd] w X nX fun v _ _ => v = B m.isZero := by
  intro w0 hk
  replace h := h.mv hk.mvo
  obtain ⟨h1, h2, h3, h4, h5, h6, h7, h8⟩ := h
  have o7 := h7.one
  have o8 := h8.one
  have q1 : m.state.hists.length = 0 ↔ m.state.hists = [] := List.length_eq_zero_iff
  have q2 : m.state.pend.length = 0 ↔ m.state.pend = [] := List.length_eq_zero_iff
  apply ok_msgs_zero; unfold vc_msgs_zero
  have hs := Since.init w0
  cases hc : m.commit <;>
  repeat' first | with_reducible (first | apply un_selT | apply un_selFT | apply grdV_onT | apply grdW_offT | apply rdW_pickT | apply rdW_pickF | apply gE_T | apply gE_FT | apply r_notT | apply r_notF) | (with_reducible apply r_eql <;> intro _) | ((with_reducible apply m_lnS); (· exact qO); (· kernel_rfl)) | ((with_reducible apply m_lnR); (· assumption); (· kernel_rfl)) | ((with_reducible apply r_bld); (· kernel_rfl)) | ((with_reducible refine r_eqS0 _ ?_ ?_ ?_); (· kernel_rfl); all_goals intros) | ((with_reducible refine r_eqT0 _ ?_ ?_ ?_); (· kernel_rfl); all_goals intros) | ((with_reducible apply m_chkl); (case h => exact qE)) | ((with_reducible apply r_add); (· omega); (· omega)) | with_reducible apply jn_of | ((first | (with_reducible refine fin_ret0 hs ?_) | (with_reducible refine fin_ret0 (hs0.trans hs) ?_)); intro wa hk; (simp_all [Msg.isZero, State.isZero, Rng.ext_iff] <;> omega)) | ((with_reducible refine eC_val (run_bits _) hs.has ?_); intro w X hs1; replace hs := hs.trans hs1)
end Go.Proofs.YtpdkoaklobnegaaGreat
namespace Go.Proofs.YtpdkoaklobnegaaGreat
open Go.Eng
set_option maxRecDepth 100000
set_option maxHeartbeats 1000000
set_option linter.unusedVariables false
set_option linter.unusedSimpArgs false
attribute [local irreducible] un jn chk fld ld1 ldA st1 ixS lnS lnT bld cvI cvF ixA bsS apS rdV rdW grdW eW eV eU eC eF gE condW fin pickN nilN binS vS lp0 lp1 lp2 lp3 lp4 lp5 lp6 lp7 nx0 nx1 nx2 nx3 nx4 nx5 nx6 nx7
def Msg.strip (m : Msg) : Msg × Bool :=
  if m.kind = 1 then ({ m with txn := .zero, range := 0, epoch := 0, stamp := .zero, keys := [] }, true)
  else if m.kind = 2 then ({ m with txn := .zero, range := 0, code := 0, stamp := .zero, seen := [], ranges := [] }, true)
  else if m.kind = 3 then ({ m with txn := .zero, range := 0, epoch := 0, stamp := .zero, seen := [], writes := [], parts := [] }, true)
  else if m.kind = 4 then ({ m with txn := .zero, range := 0, code := 0, stamp := .zero, ranges := [] }, true)
  else if m.kind = 5 then ({ m with txn := .zero, range := 0, commit := false, stamp := .zero }, true)
  else if m.kind = 6 ∨ m.kind = 7 then ({ m with txn := .zero, range := 0 }, true)
  else if m.kind = 8 then ({ m with range := 0, n := 0, mx := 0, stamp := .zero }, true)
  else if m.kind = 9 then ({ m with range := 0, n := 0, recs := [] }, true)
  else if m.kind = 10 then ({ m with range := 0, state := .zero }, true)
  else if m.kind = 11 then ({ m with range := 0 }, true)
  else if m.kind = 12 then ({ m with prev := .zero, stamp := .zero, txn := .zero, writes := [] }, true)
  else if m.kind = 13 then (m, true)
  else if m.kind = 14 then ({ m with stamp := .zero }, true)
  else (m, false)
theorem d_msgs_withoutM {w : World} {X : XS} {m : Msg} {vk vs vw vp vr vc vh vd : Value} (h : m.at w X vk vs vw vp vr vc vh vd) :
    Ct Tryz.prog 99 #[m.v vk vs vw vp vr vc vh vd] w X nX fun v wa w' => ∃ vk' vs' vw' vp' vr' vc' vh' vd', v = .tuple #[m.strip.1.v vk' vs' vw' vp' vr' vc' vh' vd', B m.strip.2] ∧
      m.strip.1.at w X vk' vs' vw' vp' vr' vc' vh' vd' := by
  intro w0 hk
  obtain ⟨h1, h2, h3, h4, h5, h6, h7, h8⟩ := h
  have o1 := h1.one
  have o2 := h2.one
  have o3 := h3.one
  have o4 := h4.one
  have o5 := h5.one
  have o6 := h6.one
  have o7 := h7.one
  have o8 := h8.one
  apply ok_msgs_without; unfold vc_msgs_without
  have hs := Since.init w0
  have n1 : Sl w X 1 (.slice none 0 0) (([] : List BA).map S1) := Sl.nil _ _ _
  have n2 : Sl w X 7 (.slice none 0 0) (([] : List SeenD).map SeenD.l) := Sl.nil _ _ _
  have n3 : Sl w X 4 (.slice none 0 0) (([] : List KV).map KV.l) := Sl.nil _ _ _
  have n4 : Sl w X 1 (.slice none 0 0) (([] : List Int).map I1) := Sl.nil _ _ _
  have n5 : Sl w X 4 (.slice none 0 0) (([] : List Rng).map Rng.l) := Sl.nil _ _ _
  have n6 : Rws w X 29 (.slice none 0 0) Rec.rd [] := Rws.nil _ _ _
  have n7 : Hists w X (.slice none 0 0) [] := Rws.nil _ _ _
  have n8 : Pends w X (.slice none 0 0) [] := Rws.nil _ _ _
  repeat' first | with_reducible (first | apply condW_T | apply condW_F) | ((with_reducible apply m_sub); (· exact qN)) | ((with_reducible apply m_set); (· exact qN)) | with_reducible apply un_box | (with_reducible apply r_eql <;> intro _) | ((with_reducible apply r_bld); (· kernel_rfl)) | ((with_reducible apply m_chkc); (case h => exact qE)) | ((with_reducible apply m_chkl); (case h => exact qE)) | ((with_reducible apply chk_T); (· exact qC)) | with_reducible apply jn_of
  all_goals
    refine fin_ret0 hs ?_
    intro wa hk9
    unfold Msg.strip
    repeat (first | rw [if_pos (by omega)] | rw [if_neg (by omega)])
    exact ⟨_, _, _, _, _, _, _, _, rfl, by assumption, by assumption, by assumption, by assumption, by assumption, by assumption, by assumption, by assumption⟩
def Msg.err (m : Msg) : Int := if !m.strip.2 then 7 else if !nodeOk m.fr || !nodeOk m.to || !m.strip.1.isZero || !m.fieldsOk then 4 else 0
def Msg.lens (m : Msg) : Nat := m.keys.length + m.seen.length + m.writes.length + m.parts.length + m.ranges.length + m.recs.length
theorem lens_ite {c : Prop} [Decidable c] {a b : Msg × Bool} {n : Nat} (ha : a.1.lens ≤ n) (hb : b.1.lens ≤ n) : (if c then a else b).1.lens ≤ n := by split <;> assumption
theorem Msg.strip_lens (m : Msg) : m.strip.1.lens ≤ m.lens := by
  unfold Msg.strip
  repeat' with_reducible apply lens_ite
  all_goals (unfold Msg.lens; (try simp only [List.length_nil]); omega)
theorem d_msgs_MayM {w : World} {X : XS} {m : Msg} {vk vs vw vp vr vc vh vd : Value} (h : m.at w X vk vs vw vp vr vc vh vd) (hsm : m.small) (hln : m.lens ≤ 2 ^ 62) :
    Ct Tryz.prog 52 #[m.v vk vs vw vp vr vc vh vd] w X nX fun v _ _ => v = I m.err := by
  intro w0 hk
  have h := h.mv hk.mvo
  have hln' := Nat.le_trans m.strip_lens hln
  apply ok_msgs_May; unfold vc_msgs_May
  have hs := Since.init w0
  refine r_ct0 (d_msgs_withoutM h) (by kernel_rfl) hs.has ?_
  rintro v wa w X ⟨vk', vs', vw', vp', vr', vc', vh', vd', rfl, hat⟩ hle hin hs1
  replace hs := hs.trans hs1
  have q1 := hat.1.one
  have q2 := hat.2.one
  have q3 := hat.3.one
  have q4 := hat.4.one
  have q5 := hat.5.one
  have q6 := hat.6.one
  have q7 := hat.7.one
  have q8 := hat.8.one
  cases hb : m.strip.2 <;>
  repeat' first | with_reducible (first | apply condW_T | apply condW_F) | ((with_reducible apply m_sub); (· exact qN)) | with_reducible (first | apply un_box | apply un_selF | apply un_selTF | apply grdV_onF | apply grdW_offF | apply rdW_pickT | apply rdW_pickF | apply gE_F | apply gE_TF | apply r_notT | apply r_notF) | ((with_reducible apply m_ext); (· rfl)) | ((with_reducible apply m_chkc); (case h => exact qE)) | ((with_reducible apply chk_T); (· exact qC)) | with_reducible apply jn_of | ((with_reducible refine r_pureB (c_msgs_Node _) ?_ hs.has ?_ ?_); (· kernel_rfl); all_goals (intro _ w X hs1; replace hs := hs.trans hs1)) | ((first | (with_reducible refine fin_ret0 hs ?_) | (with_reducible refine fin_ret0 (hs0.trans hs) ?_)); intro wa hk; (simp [Msg.err, *])) | (refine r_ct0B ((d_msgs_zeroM (m := m.strip.1))  (hat.mv (Since.mv (by first | assumption | exact Since.trans (by assumption) (by assumption)))) hln') (by kernel_rfl) hs.has ?_ ?_ <;> (intro _ w X hs1; replace hs := hs.trans hs1)) | (refine r_ct0B ((d_msgs_fieldsM (m := m))  (h.mv (Since.mv hs)) hsm) (by kernel_rfl) hs.has ?_ ?_ <;> (intro _ w X hs1; replace hs := hs.trans hs1))
end Go.Proofs.YtpdkoaklobnegaaGreat
namespace Go.Proofs.YtpdkoaklobnegaaGreat
open Go.Eng
set_option maxRecDepth 100000
set_option maxHeartbeats 1000000
set_option linter.unusedVariables false
set_option linter.unusedSimpArgs false
attribute [local irreducible] un jn chk fld ld1 ldA st1 ixS lnS lnT bld cvI cvF ixA bsS apS rdV rdW grdW eW eV eU eC eF gE condW fin pickN nilN binS vS lp0 lp1 lp2 lp3 lp4 lp5 lp6 lp7 nx0 nx1 nx2 nx3 nx4 nx5 nx6 nx7
section
variable {κ : Type} [DecidableEq κ] {α β : Type}
theorem getM_map (f : α → β) (k : κ) (l : List (κ × α)) : getM k (l.map fun x => (x.1, f x.2)) = (getM k l).map f := by
  induction l with
  | nil => rfl
  | cons x l ih =>
    simp only [getM, List.map_cons, List.find?_cons] at ih ⊢
    by_cases hx : x.1 = k
    · simp [hx]
    · simp only [hx, decide_false] at ih ⊢; exact ih
theorem putM_map (f : α → β) (k : κ) (a : α) (l : List (κ × α)) : (putM k a l).map (fun x => (x.1, f x.2)) = putM k (f a) (l.map fun x => (x.1, f x.2)) := by
  induction l with
  | nil => rfl
  | cons x l ih =>
    simp only [putM, List.map_cons] at ih ⊢
    by_cases hx : x.1 = k
    · simp [hx]
    · simp only [hx, if_false, List.map_cons, ih]
theorem delM_map (f : α → β) (k : κ) (l : List (κ × α)) : (delM k l).map (fun x => (x.1, f x.2)) = delM k (l.map fun x => (x.1, f x.2)) := by
  unfold delM
  rw [List.filter_map]; rfl
theorem putM_ids (f : α → β) (k : κ) (a : α) {l : List (κ × α)} (h : ∀ x ∈ l, x.1 = k → f x.2 = f a) (hk : (getM k l).isSome = true) : (putM k a l).map (fun x => (x.1, f x.2)) = l.map fun x => (x.1, f x.2) := by
  induction l with
  | nil => cases hk
  | cons x l ih =>
    simp only [putM]
    by_cases hx : x.1 = k
    · simp [hx, h x (by simp) hx]
    · simp only [hx, if_false, List.map_cons]
      rw [ih (fun y hy => h y (by simp [hy])) (by simpa [getM, List.find?_cons, hx] using hk)]
theorem putM_keys (k : κ) (a : α) (l : List (κ × α)) : (putM k a l).map (·.1) = if (getM k l).isSome then l.map (·.1) else l.map (·.1) ++ [k] := by
  induction l with
  | nil => rfl
  | cons x l ih =>
    simp only [putM]
    by_cases hx : x.1 = k
    · simp [hx, getM]
    · have e : getM k (x :: l) = getM k l := by simp [getM, List.find?_cons, hx]
      rw [if_neg hx, e, List.map_cons, ih]
      split <;> simp
theorem getM_none {k : κ} {l : List (κ × α)} : getM k l = none ↔ k ∉ l.map (·.1) := by
  induction l with
  | nil => simp [getM]
  | cons x l ih =>
    by_cases hx : x.1 = k
    · simp [getM, hx]
    · have e : getM k (x :: l) = getM k l := by simp [getM, List.find?_cons, hx]
      rw [e, ih]
      simp [Ne.symm (hx : x.1 ≠ k), eq_comm, hx]
theorem putM_nodup {k : κ} {a : α} {l : List (κ × α)} (h : (l.map (·.1)).Nodup) : ((putM k a l).map (·.1)).Nodup := by
  rw [putM_keys]
  split
  · exact h
  · rename_i hn
    have hn' : getM k l = none := by cases hg : getM k l with | none => rfl | some a => simp [hg] at hn
    rw [List.nodup_append]
    refine ⟨h, by simp, fun a ha b hb e => ?_⟩
    simp only [List.mem_singleton] at hb
    subst hb; subst e
    exact getM_none.1 hn' ha
theorem getM_putM_self {k : κ} {a : α} {l : List (κ × α)} : getM k (putM k a l) = some a := by
  induction l with
  | nil => simp [putM, getM]
  | cons x l ih =>
    simp only [putM]
    by_cases hx : x.1 = k
    · simp [hx, getM]
    · rw [if_neg hx]; simpa [getM, List.find?_cons, hx] using ih
theorem getM_putM_ne {k j : κ} {a : α} {l : List (κ × α)} (hj : j ≠ k) : getM j (putM k a l) = getM j l := by
  induction l with
  | nil => simp [putM, getM, Ne.symm hj]
  | cons x l ih =>
    simp only [putM]
    by_cases hx : x.1 = k
    · rw [if_pos hx]; simp [getM, List.find?_cons, Ne.symm hj, hx]
    · rw [if_neg hx]
      by_cases hxj : x.1 = j
      · simp [getM, hxj]
      · simpa [getM, List.find?_cons, hxj] using ih
theorem getM_delM_self {k : κ} {l : List (κ × α)} : getM k (delM k l) = none := by
  rw [getM_none]; intro h
  obtain ⟨x, hx, e⟩ := List.mem_map.1 h
  have := (List.mem_filter.1 hx).2
  simp [e] at this
theorem getM_delM_ne {k j : κ} {l : List (κ × α)} (hj : j ≠ k) : getM j (delM k l) = getM j l := by
  induction l with
  | nil => rfl
  | cons x l ih =>
    unfold delM at ih ⊢
    by_cases hx : x.1 = k
    · rw [List.filter_cons_of_neg (by simp [hx]), ih]
      simp [getM, List.find?_cons, hx, Ne.symm hj]
    · rw [List.filter_cons_of_pos (by simpa using hx)]
      by_cases hxj : x.1 = j
      · simp [getM, hxj]
      · simpa [getM, List.find?_cons, hxj] using ih
theorem putM_pair {R : κ × α → κ × α → Prop} {k : κ} {a : α} {l : List (κ × α)} (hn : (l.map (·.1)).Nodup) (hp : l.Pairwise R) (h : ∀ y ∈ l, y.1 ≠ k → R (k, a) y ∧ R y (k, a)) : (putM k a l).Pairwise R := by
  induction l with
  | nil => simp [putM]
  | cons x l ih =>
    have hn' := List.nodup_cons.1 hn
    have hp' := List.pairwise_cons.1 hp
    simp only [putM]
    by_cases hx : x.1 = k
    · rw [if_pos hx, List.pairwise_cons]
      refine ⟨fun y hy => (h y (by simp [hy]) fun e => hn'.1 (List.mem_map.2 ⟨y, hy, e.trans hx.symm⟩)).1, hp'.2⟩
    · rw [if_neg hx, List.pairwise_cons]
      refine ⟨fun y hy => ?_, ih hn'.2 hp'.2 fun y hy => h y (by simp [hy])⟩
      rcases mem_putM hn'.2 hy with rfl | ⟨hy, _⟩
      · exact (h x (by simp) hx).2
      · exact hp'.1 y hy
def sumM (f : α → Nat) (l : List (κ × α)) : Nat := (l.map fun x => f x.2).sum
theorem sumM_put {f : α → Nat} {k : κ} {a b : α} {l : List (κ × α)} (h : getM k l = some b) : sumM f (putM k a l) + f b = sumM f l + f a := by
  induction l with
  | nil => cases h
  | cons x l ih =>
    simp only [putM]
    by_cases hx : x.1 = k
    · have : x.2 = b := by simpa [getM, hx] using h
      rw [if_pos hx]; simp only [sumM, List.map_cons, List.sum_cons, this]; omega
    · rw [if_neg hx]
      have := ih (by simpa [getM, List.find?_cons, hx] using h)
      simp only [sumM, List.map_cons, List.sum_cons] at this ⊢; omega
theorem sumM_new {f : α → Nat} {k : κ} {a : α} {l : List (κ × α)} (h : getM k l = none) : sumM f (putM k a l) = sumM f l + f a := by
  induction l with
  | nil => simp [putM, sumM]
  | cons x l ih =>
    simp only [putM]
    by_cases hx : x.1 = k
    · simp [getM, hx] at h
    · rw [if_neg hx]
      have := ih (by simpa [getM, List.find?_cons, hx] using h)
      simp only [sumM, List.map_cons, List.sum_cons] at this ⊢; omega
theorem sumM_get {f : α → Nat} {k : κ} {b : α} {l : List (κ × α)} (h : getM k l = some b) : f b ≤ sumM f l := by
  induction l with
  | nil => cases h
  | cons x l ih =>
    by_cases hx : x.1 = k
    · have : x.2 = b := by simpa [getM, hx] using h
      simp only [sumM, List.map_cons, List.sum_cons, this]; omega
    · have := ih (by simpa [getM, List.find?_cons, hx] using h)
      simp only [sumM, List.map_cons, List.sum_cons] at this ⊢; omega
theorem sumM_del {f : α → Nat} {k : κ} {b : α} {l : List (κ × α)} (hn : (l.map (·.1)).Nodup) (h : getM k l = some b) : sumM f (delM k l) + f b = sumM f l := by
  induction l with
  | nil => cases h
  | cons x l ih =>
    have hn' := List.nodup_cons.1 hn
    unfold delM at ih ⊢
    by_cases hx : x.1 = k
    · have : x.2 = b := by simpa [getM, hx] using h
      have e : l.filter (fun y => decide (y.1 ≠ k)) = l := List.filter_eq_self.2 fun y hy => by
        have : y.1 ≠ k := fun e => hn'.1 (List.mem_map.2 ⟨y, hy, e.trans hx.symm⟩)
        simpa using this
      rw [List.filter_cons_of_neg (by simp [hx]), e]
      simp only [sumM, List.map_cons, List.sum_cons, this]; omega
    · rw [List.filter_cons_of_pos (by simpa using hx)]
      have := ih hn'.2 (by simpa [getM, List.find?_cons, hx] using h)
      simp only [sumM, List.map_cons, List.sum_cons] at this ⊢; omega
end
structure DM where
  fs : List (ByteArray × (List Nat × Nat))
  wr : Int
  ar : Nat
  dn : Bool
def DM.sz (m : DM) : Nat := sumM (fun x => x.1.length) m.fs
def DM.get (m : DM) (n : ByteArray) : Option (List Nat × Nat) := getM n m.fs
def DM.put (m : DM) (n : ByteArray) (bs : List Nat) (s : Nat) : DM := { m with fs := putM n (bs, s) m.fs }
def DM.del (m : DM) (n : ByteArray) : DM := { m with fs := delM n m.fs }
def DM.tick (m : DM) : DM := if m.ar = 1 then { m with ar := 0, dn := true } else { m with ar := m.ar - 1, wr := IntKind.i64.wrap (m.wr + 1) }
def DM.write (m : DM) (e : Nat) (f : DM → DM) : DM × Nat := if m.dn then (m, 12) else if e ≠ 0 then (m, e) else if m.tick.dn then (m.tick, 12) else (f m.tick, 0)
def nameOk (n : ByteArray) : Bool := decide (1 ≤ n.size ∧ n.size ≤ 20)
def DM.create (m : DM) (n : ByteArray) : DM × Nat := m.write (if ¬ nameOk n then 10 else if (m.get n).isSome then 9 else if 64 ≤ m.fs.length then 3 else 0) fun m => m.put n [] 0
def DM.append (m : DM) (n : ByteArray) (b : List Nat) : DM × Nat :=
  if m.dn then (m, 12) else match m.get n with
  | none => (m, 8)
  | some (bs, s) => if 4194304 - m.sz < b.length then (m, 11) else (m.tick.put n (bs ++ b) s, if m.tick.dn then 12 else 0)
def DM.syncF (n : ByteArray) (m : DM) : DM := match m.get n with
  | none => m
  | some x => m.put n x.1 x.1.length
def DM.sync (m : DM) (n : ByteArray) : DM × Nat := m.write (if (m.get n).isSome then 0 else 8) (DM.syncF n)
def DM.remove (m : DM) (n : ByteArray) : DM × Nat := m.write (if (m.get n).isSome then 0 else 8) fun m => m.del n
theorem DM.tick_fs (m : DM) : m.tick.fs = m.fs := by unfold DM.tick; split <;> rfl
theorem DM.tick_get (m : DM) (n : ByteArray) : m.tick.get n = m.get n := by unfold DM.get; rw [m.tick_fs]
theorem DM.tick_sz (m : DM) : m.tick.sz = m.sz := by unfold DM.sz; rw [m.tick_fs]
theorem DM.put_sz {m : DM} {n : ByteArray} {b bs : List Nat} {s s' : Nat} (h : m.get n = some (b, s)) : (m.put n bs s').sz + b.length = m.sz + bs.length := sumM_put (f := fun x : List Nat × Nat => x.1.length) h
theorem DM.put_new {m : DM} {n : ByteArray} {bs : List Nat} {s' : Nat} (h : m.get n = none) : (m.put n bs s').sz = m.sz + bs.length := sumM_new (f := fun x : List Nat × Nat => x.1.length) h
theorem DM.syncF_sz (m : DM) (n : ByteArray) : (m.syncF n).sz = m.sz := by
  unfold DM.syncF
  split
  · rfl
  · rename_i x hx
    have := DM.put_sz (bs := x.1) (s' := x.1.length) hx
    omega
theorem DM.get_len {m : DM} {n : ByteArray} {b : List Nat} {s : Nat} (h : m.get n = some (b, s)) : b.length ≤ m.sz := sumM_get (f := fun x : List Nat × Nat => x.1.length) h
structure FileM where
  b : Nat
  v : Value
  bs : List Nat
  safe : Nat
def FileM.er (f : FileM) : List Nat × Nat := (f.bs, f.safe)
def rdF : World → XS → Value → FileM → Prop := fun _ _ v f => v = ptr f.b 0
theorem rdF_mv : MovesV rdF := fun _ _ _ _ _ _ h _ => h
def apart (x y : ByteArray × FileM) : Prop := x.2.b ≠ y.2.b ∧ ∀ g, x.2.v.ownBlock = some g → y.2.v.ownBlock ≠ some g
structure DkL (w : World) (F : XS) (db mb : Nat) (l : List (ByteArray × FileM)) (m : DM) (z : Nat) : Prop where
  fs : m.fs = l.map fun x => (x.1, x.2.er)
  box : RowIs w F db [.map (some mb), I z, I m.wr, I m.ar, B m.dn] 106
  map : MapR w F nX mb Value.string rdF l
  row : ∀ x ∈ l, RowIs w F x.2.b [x.2.v, I x.2.safe] 141
  ow : ∀ x ∈ l, Ow w F 5 1 x.2.v (x.2.bs.map U1)
  ap : l.Pairwise apart
  ar : m.ar < 2 ^ 63
  safe : ∀ x ∈ l, x.2.safe ≤ x.2.bs.length
def Dk (w : World) (F : XS) (db : Nat) (m : DM) : Prop := ∃ mb l, DkL w F db mb l m m.sz ∧ m.sz ≤ 4194304
section
variable {w w' : World} {F F' X X' G A : XS} {db mb z z' : Nat} {l : List (ByteArray × FileM)} {m m' : DM} {n : ByteArray} {f : FileM}
theorem DkL.mv (h : DkL w F db mb l m z) (v : Mv F w F' w') : DkL w' F' db mb l m z :=
  ⟨h.fs, h.box.mv v, h.map.mv rdF_mv v (fun _ h => h.elim), fun x hx => (h.row x hx).mv v, fun x hx => (h.ow x hx).mv v, h.ap, h.ar, h.safe⟩
theorem Dk.mv (h : Dk w F db m) (v : Mv F w F' w') : Dk w' F' db m := let ⟨mb, l, h, hz⟩ := h; ⟨mb, l, h.mv v, hz⟩
theorem Dk.mono (h : Dk w F db m) (hs : ∀ k, F k → F' k) : Dk w F' db m := h.mv (Mv.sub hs)
theorem DkL.get (h : DkL w F db mb l m z) (n : ByteArray) : m.get n = (getM n l).map FileM.er := by
  unfold DM.get; rw [h.fs]; exact getM_map FileM.er n l
theorem DkL.nodup (h : DkL w F db mb l m z) : (l.map (·.1)).Nodup := h.map.nodup
theorem DkL.len (h : DkL w F db mb l m z) : m.fs.length = l.length := by rw [h.fs, List.length_map]
theorem DkL.setBox (h : DkL w F db mb l m z) (hX : ∀ k, F k → X k) (c : Chg (· = db) X w X' w') (hr : RowIs w' X' db [.map (some mb), I z', I m'.wr, I m'.ar, B m'.dn] 106) (hfs : m'.fs = m.fs) (har : m'.ar < 2 ^ 63) : DkL w' F db mb l m' z' := by
  have mv : ∀ {A : XS}, (∀ k, A k → F k ∧ k ≠ db) → Mv A w F w' := fun hA k hk _ => ⟨(hA k hk).1, c.block k (hX k (hA k hk).1) (hA k hk).2⟩
  refine ⟨hfs.trans h.fs, ⟨h.box.1, hr.2⟩, ?_, fun x hx => ?_, fun x hx => ?_, h.ap, har, h.safe⟩
  · exact h.map.own.mv rdF_mv (mv fun k hk => by subst hk; exact ⟨h.map.x.1, h.map.neRow h.box⟩) fun _ h => h.elim
  · exact (h.row x hx).own.mv (mv fun k hk => by subst hk; exact ⟨(h.row x hx).1, (h.row x hx).neRow h.box (by kernel_rfl)⟩)
  · exact (h.ow x hx).tight.mv (mv fun k hk => ⟨((h.ow x hx).inX hk).1, fun e => (h.ow x hx).neRow h.box (by kernel_rfl) (e ▸ hk)⟩)
theorem pw_ne {α : Type} {R : α → α → Prop} (hs : ∀ a b, R a b → R b a) {l : List α} (h : l.Pairwise R) {x y : α} (hx : x ∈ l) (hy : y ∈ l) (hne : x ≠ y) : R x y := by
  induction l with
  | nil => cases hx
  | cons a l ih =>
    have h' := List.pairwise_cons.1 h
    rcases List.mem_cons.1 hx with e1 | h1
    · rcases List.mem_cons.1 hy with e2 | h2
      · exact absurd (e1.trans e2.symm) hne
      · rw [e1]; exact h'.1 y h2
    · rcases List.mem_cons.1 hy with e2 | h2
      · rw [e2]; exact hs _ _ (h'.1 x h1)
      · exact ih h'.2 h1 h2
theorem apart_symm : ∀ a b : ByteArray × FileM, apart a b → apart b a := fun a b h => ⟨Ne.symm h.1, fun g hg hg' => h.2 g hg' hg⟩
theorem DkL.far (h : DkL w F db mb l m z) (hn : getM n l = some f) {y : ByteArray × FileM} (hy : y ∈ l) (hne : y.1 ≠ n) : apart (n, f) y :=
  pw_ne apart_symm h.ap (mem_get hn) hy fun e => hne (by rw [← e])
theorem Rep.ids {A : XS} : ∀ {es : List (Ent ByteArray)} {l l' : List (ByteArray × FileM)}, Rep w A rdF es l → l'.map (fun x => (x.1, x.2.b)) = l.map (fun x => (x.1, x.2.b)) → Rep w A rdF es l'
  | [], [], [], _, _ => trivial
  | [], [], _ :: _, _, h => by cases h
  | e :: es, x :: l, [], _, h => by cases h
  | e :: es, x :: l, y :: l', ⟨h1, h2, h3⟩, h => by
    simp only [List.map_cons, List.cons.injEq, Prod.mk.injEq] at h
    exact ⟨h1.trans h.1.1.symm, by unfold rdF at h2 ⊢; rw [h2, h.1.2], Rep.ids h3 h.2⟩
  | [], _ :: _, _, h, _ => h.elim
  | _ :: _, [], _, h, _ => h.elim
theorem DkL.upd (h : DkL w F db mb l m z) (hX : ∀ k, F k → X k ∧ k < w.heap.size) (c : Chg G X w X' w') (hn : getM n l = some f) (hG : ∀ k, G k → k = f.b ∨ f.v.ownBlock = some k) (hFF : ∀ k, F k → F' k)
    {v' : Value} {bs' : List Nat} {s' : Nat} (hr : RowIs w' F' f.b [v', I s'] 141) (ho : Ow w' F' 5 1 v' (bs'.map U1)) (hat : v'.ownBlock = f.v.ownBlock ∨ ∃ g, v'.ownBlock = some g ∧ w.heap.size ≤ g) (hs : s' ≤ bs'.length) :
    DkL w' F' db mb (putM n ⟨f.b, v', bs', s'⟩ l) (m.put n bs' s') z := by
  have hf := mem_get hn
  have rf := h.row _ hf
  have of := h.ow _ hf
  have mv : ∀ {A : XS}, (∀ k, A k → F k ∧ k ≠ f.b ∧ f.v.ownBlock ≠ some k) → Mv A w F' w' := fun hA k hk _ => by
    obtain ⟨a1, a2, a3⟩ := hA k hk
    exact ⟨hFF k a1, c.block k (hX k a1).1 fun hg => (hG k hg).elim a2 a3⟩
  refine ⟨?_, ?_, ?_, fun x hx => ?_, fun x hx => ?_, ?_, h.ar, fun x hx => ?_⟩
  · show putM n (bs', s') m.fs = _
    rw [h.fs, putM_map FileM.er]; rfl
  · exact h.box.own.mv (mv fun k hk => by subst hk; exact ⟨h.box.1, (rf.neRow h.box (by kernel_rfl)).symm, of.neRow h.box (by kernel_rfl)⟩)
  · obtain ⟨es, c', h1, h2⟩ := h.map.own.mv rdF_mv (mv fun k hk => by subst hk; exact ⟨h.map.x.1, h.map.neRow rf, h.map.neOw of⟩) (A' := nX) fun _ h => h.elim
    refine ⟨es, c', h1, Rep.ids h2 (putM_ids FileM.b n ⟨f.b, v', bs', s'⟩ (fun x hx e => ?_) (by rw [hn]; rfl))⟩
    have : getM n l = some x.2 := getM_of_mem h.nodup (by rw [← e]; exact hx)
    rw [hn] at this
    rw [← Option.some.inj this]
  · rcases mem_putM h.nodup hx with rfl | ⟨hx, hne⟩
    · exact hr
    · have ha := h.far hn hx hne
      exact (h.row x hx).own.mv (mv fun k hk => by subst hk; exact ⟨(h.row x hx).1, ha.1.symm, of.neRow (h.row x hx) (by kernel_rfl)⟩)
  · rcases mem_putM h.nodup hx with rfl | ⟨hx, hne⟩
    · exact ho
    · have ha := h.far hn hx hne
      exact (h.ow x hx).tight.mv (mv fun k hk => ⟨((h.ow x hx).inX hk).1, fun e => (h.ow x hx).neRow rf (by kernel_rfl) (e ▸ hk), fun e => ha.2 k e hk⟩)
  · refine putM_pair h.nodup h.ap fun y hy hne => ?_
    have ha := h.far hn hy hne
    have key : apart (n, ⟨f.b, v', bs', s'⟩) y := ⟨ha.1, fun g hg hg' => by
      rcases hat with e | ⟨g', e, hge⟩
      · exact ha.2 g (e ▸ hg) hg'
      · have := (hX g ((h.ow y hy).inX hg').1).2
        have : g' = g := by
          have e2 : v'.ownBlock = some g := hg
          rw [e] at e2; exact Option.some.inj e2
        omega⟩
    exact ⟨key, apart_symm _ _ key⟩
  · rcases mem_putM h.nodup hx with rfl | ⟨hx, hne⟩
    · exact hs
    · exact h.safe x hx
theorem DkL.new (h : DkL w F db mb l m z) (hX : ∀ k, F k → X k ∧ k < w.heap.size) (c : Chg G X w X' w') (hn : getM n l = none) (hG : ∀ k, G k → k = mb) (hFF : ∀ k, F k → F' k) {b : Nat} (hb : w.heap.size ≤ b)
    (hm : MapR w' F' nX mb Value.string rdF (putM n ⟨b, .slice none 0 0, [], 0⟩ l)) (hr : RowIs w' F' b [.slice none 0 0, I (0 : Nat)] 141) :
    DkL w' F' db mb (putM n ⟨b, .slice none 0 0, [], 0⟩ l) (m.put n [] 0) z := by
  have mv : ∀ {A : XS}, (∀ k, A k → F k ∧ k ≠ mb) → Mv A w F' w' := fun hA k hk _ => by
    obtain ⟨a1, a2⟩ := hA k hk
    exact ⟨hFF k a1, c.block k (hX k a1).1 fun hg => a2 (hG k hg)⟩
  refine ⟨?_, ?_, hm, fun x hx => ?_, fun x hx => ?_, ?_, h.ar, fun x hx => ?_⟩
  · show putM n ([], 0) m.fs = _
    rw [h.fs, putM_map FileM.er]; rfl
  · exact h.box.own.mv (mv fun k hk => by subst hk; exact ⟨h.box.1, (h.map.neRow h.box).symm⟩)
  · rcases mem_putM h.nodup hx with rfl | ⟨hx, hne⟩
    · exact hr
    · exact (h.row x hx).own.mv (mv fun k hk => by subst hk; exact ⟨(h.row x hx).1, (h.map.neRow (h.row x hx)).symm⟩)
  · rcases mem_putM h.nodup hx with rfl | ⟨hx, hne⟩
    · exact Ow.nil _ _ _ _
    · exact (h.ow x hx).tight.mv (mv fun k hk => ⟨((h.ow x hx).inX hk).1, fun e => h.map.neOw (h.ow x hx) (e ▸ hk)⟩)
  · refine putM_pair h.nodup h.ap fun y hy hne => ?_
    have key : apart (n, ⟨b, .slice none 0 0, [], 0⟩) y := ⟨fun e => by
      have := (hX _ (h.row y hy).1).2
      have e' : b = y.2.b := e
      omega, fun g hg => by cases hg⟩
    exact ⟨key, apart_symm _ _ key⟩
  · rcases mem_putM h.nodup hx with rfl | ⟨hx, hne⟩
    · exact Nat.le_refl _
    · exact h.safe x hx
theorem DkL.less (h : DkL w F db mb l m z) (hX : ∀ k, F k → X k) (c : Chg (· = mb) X w X' w') (hm : MapR w' X' nX mb Value.string rdF (delM n l)) : DkL w' F db mb (delM n l) (m.del n) z := by
  have mv : ∀ {A : XS}, (∀ k, A k → F k ∧ k ≠ mb) → Mv A w F w' := fun hA k hk _ => ⟨(hA k hk).1, c.block k (hX k (hA k hk).1) (hA k hk).2⟩
  have hsub : ∀ x ∈ delM n l, x ∈ l := fun x hx => (List.mem_filter.1 hx).1
  refine ⟨?_, ?_, ?_, fun x hx => ?_, fun x hx => ?_, h.ap.filter _, h.ar, fun x hx => h.safe x (hsub x hx)⟩
  · show delM n m.fs = _
    rw [h.fs, delM_map FileM.er]
  · exact h.box.own.mv (mv fun k hk => by subst hk; exact ⟨h.box.1, (h.map.neRow h.box).symm⟩)
  · obtain ⟨es, c', h1, h2⟩ := hm
    exact ⟨es, c', ⟨h.map.x.1, h1.2⟩, h2⟩
  · exact (h.row x (hsub x hx)).own.mv (mv fun k hk => by subst hk; exact ⟨(h.row x (hsub x hx)).1, (h.map.neRow (h.row x (hsub x hx))).symm⟩)
  · exact (h.ow x (hsub x hx)).tight.mv (mv fun k hk => ⟨((h.ow x (hsub x hx)).inX hk).1, fun e => h.map.neOw (h.ow x (hsub x hx)) (e ▸ hk)⟩)
end
def FX (F X : XS) (w : World) : Prop := ∀ k, F k → X k ∧ k < w.heap.size
theorem FX.kp {F X : XS} {w wa : World} (h : FX F X w) (hk : Kp X w wa) : FX F (old wa) wa := fun k hk' => ⟨Nat.lt_of_lt_of_le (h k hk').2 hk.size, Nat.lt_of_lt_of_le (h k hk').2 hk.size⟩
theorem FX.mv {F X : XS} {w wa : World} (h : FX F X w) (hk : Kp X w wa) : Mv F w F wa := fun k hk' _ => ⟨hk', hk.block k (h k hk').1⟩
theorem FX.ft {F X : XS} {w wa : World} (h : FX F X w) (hk : Kp X w wa) : Ft wa F wa (old wa) F := Ft.init fun k hk' => (h.kp hk k hk').1
theorem _root_.Go.Eng.Ft.fx {w0 w : World} {F0 F G X : XS} (h : Ft w0 F0 w X F) (hG : ∀ k, G k → F k) : FX G X w := fun k hk => ⟨h.inX k (hG k hk), h.s.has k (h.inX k (hG k hk))⟩
end Go.Proofs.YtpdkoaklobnegaaGreat
namespace Go.Proofs.YtpdkoaklobnegaaGreat
open Go.Eng
set_option maxRecDepth 100000
set_option maxHeartbeats 1000000
set_option linter.unusedVariables false
set_option linter.unusedSimpArgs false
attribute [local irreducible] un jn chk fld ld1 ldA st1 ixS lnS lnT bld cvI cvF ixA bsS apS rdV rdW grdW eW eV eU eC eF gE condW fin pickN nilN binS vS lp0 lp1 lp2 lp3 lp4 lp5 lp6 lp7 nx0 nx1 nx2 nx3 nx4 nx5 nx6 nx7
section
variable {P : Program} {R : Ending → World → Prop} {w w0 : World} {X F F0 G : XS} {db mb z : Nat} {l : List (ByteArray × FileM)} {m : DM}
theorem m_lenM {κ α : Type} [DecidableEq κ] {A : XS} {t ty kt et b : Nat} {kv : κ → Value} {rd : World → XS → Value → α → Prop} {l : List (κ × α)} {N : Value → Prop} (h : MapR w X A b kv rd l) (ht : P.underlying t = some (.map kt et))
    (n : N (I l.length)) : rdV P X w (Builtin.len_ #[t] ty #[.map (some b)]) N := by
  obtain ⟨es, c, h1, h2⟩ := h
  refine rdV_of (I l.length) (fun wa hk => ?_) n
  have hb := (h1.kp hk).2.1
  have hl : es.length = l.length := by have := congrArg List.length h2.keys; simpa using this
  simp [Builtin.len_, run_underlying ht, getObj, Sem.run, hb, goInt, hl]
theorem r_addW {t : TypeId} {a b : Int} {N : Value → Prop} (h : N (.int .i64 (IntKind.i64.wrap (a + b)))) : rdV P X w (binOp .add t (.int .i64 a) (.int .i64 b)) N := rdV_add h
theorem m_dkSt {N : Value → World → XS → Prop} {t o o' : Nat} {v : Value} (hT : Ft w0 F0 w X F) (h : DkL w G db mb l m z) (hG : ∀ k, G k → F k) (m' : DM) (z' : Nat) (hoo : o' = o) (ht : ((P.info? t).map (·.size)) = some 1) (ho : o + 1 ≤ 5) (h1 : one v = true)
    (hc : setL [.map (some mb), I z, I m.wr, I m.ar, B m.dn] o [v] = [.map (some mb), I z', I m'.wr, I m'.ar, B m'.dn]) (hfs : m'.fs = m.fs) (har : m'.ar < 2 ^ 63)
    (n : ∀ w' X', Ft w0 F0 w' X' F → DkL w' G db mb l m' z' → Chg (· = db) X w X' w' → N undef w' X') : eU P R X w true (st1 t 1 (ptr db o') v) N := by
  subst hoo
  have hX : ∀ k, G k → X k := fun k hk => hT.inX k (hG k hk)
  have hv : v.cells = #[v] := one_cells h1
  refine m_st1 (h.box.mv (Mv.sub hX)) ht ho (by rw [hv]; rfl) (by rw [hv]; simp [h1]) hT.s.has fun w' X' c hr => ?_
  rw [hv] at hr
  rw [hc] at hr
  exact n w' X' (hT.chg c (fun k hk => by subst hk; exact hG _ h.box.1) fun k hk => .inl hk) (h.setBox hX c hr hfs har) c
end
theorem m_fileGet {w : World} {X : XS} {mb : Nat} {l : List (ByteArray × FileM)} {n : ByteArray} {N : Value → Prop} (hm : MapR w X nX mb Value.string rdF l) (n1 : ∀ f, getM n l = some f → N (ptr f.b 0)) (n0 : getM n l = none → N (.pointer none)) :
    rdV Tryz.prog X w (Instr.lookup 104 (.map (some mb)) (.string n) false) N :=
  m_mapGet1 (kt := 9) (et := 135) (.pointer none) hm (key_string (by kernel_rfl)) (by kernel_rfl) (by kernel_rfl) (fun v f h1 h2 => by
    have h2 : v = ptr f.b 0 := h2
    subst h2; exact n1 f h1) n0
theorem d_disk_last {w : World} {X F : XS} {db mb z : Nat} {l : List (ByteArray × FileM)} {m : DM} (h : DkL w F db mb l m z) (hF : FX F X w) (hdn : m.dn = false) :
    Ct Tryz.prog 252 #[ptr db 0] w X F fun v wa w' => v = B m.tick.dn ∧ DkL w' F db mb l m.tick z := by
  intro w0 hk
  have h0 := h.mv (hF.mv hk)
  have hT := hF.ft hk
  clear h
  have har := h0.ar
  apply ok_disk_Disk_last; unfold vc_disk_Disk_last
  have hb := h0.box.mv (Mv.sub hT.inX)
  rw [hdn] at hb
  have hid : ∀ k, F k → F k := fun _ h => h
  refine jn_of ?_
  repeat' first | with_reducible (first | apply condW_T | apply condW_F | apply r_notF | apply r_nil) | (with_reducible apply r_gtr <;> intro _) | ((with_reducible apply m_fld1); (· exact qF); (· kernel_rfl); (· rfl); intro _ _ _) | ((with_reducible apply m_ld1); (· exact qF); (· exact qM); (· kernel_rfl); (· rfl)) | ((with_reducible apply r_sub); (· omega); (· omega)) | with_reducible apply jn_of
  · refine m_dkSt hT h0 hid { m with ar := m.ar - 1 } z (o := 3) (by omega) (by kernel_rfl) (by omega) rfl (by rw [show ((m.ar - 1 : Nat) : Int) = (m.ar : Int) - 1 by omega]; rfl) rfl (by show m.ar - 1 < _; omega) fun w1 X1 hT h1 c1 => ?_
    clear hb h0
    have hb := h1.box.mv (Mv.sub hT.inX)
    repeat' first | with_reducible apply r_nil | (with_reducible apply r_eql <;> intro _) | ((with_reducible apply m_fld1); (· exact qF); (· kernel_rfl); (· rfl); intro _ _ _) | ((with_reducible apply m_ld1); (· exact qF); (· exact qM); (· kernel_rfl); (· rfl))
    · refine m_dkSt hT h1 hid { m with ar := m.ar - 1, dn := true } z (o := 4) (by omega) (by kernel_rfl) (by omega) rfl rfl rfl h1.ar fun w1 X1 hT h2 c1 => ?_
      clear hb h1
      have hb := h2.box.mv (Mv.sub hT.inX)
      have q' : ((m.ar - 1 : Nat) : Int) = 0 := by assumption
      have ha1 : m.ar = 1 := by omega
      repeat' first | with_reducible (first | apply condW_F | apply r_notT | apply r_nil) | ((with_reducible apply m_fld1); (· exact qF); (· kernel_rfl); (· rfl); intro _ _ _) | ((with_reducible apply m_ld1); (· exact qF); (· exact qM); (· kernel_rfl); (· rfl)) | with_reducible apply jn_of
      refine hT.fin fun wa hk9 => ⟨by rw [DM.tick, if_pos ha1], ?_⟩
      rw [DM.tick, if_pos ha1]
      rw [show m.ar - 1 = 0 by omega] at h2
      exact h2.mv (hk9.mvA hT.inX)
    · refine m_dkSt hT h1 hid { m with ar := m.ar - 1, dn := false } z (o := 4) (by omega) (by kernel_rfl) (by omega) rfl rfl rfl h1.ar fun w1 X1 hT h2 c1 => ?_
      clear hb h1
      have hb := h2.box.mv (Mv.sub hT.inX)
      have q' : ¬ ((m.ar - 1 : Nat) : Int) = 0 := by assumption
      have ha1 : ¬ m.ar = 1 := by omega
      repeat' first | with_reducible (first | apply condW_T | apply r_notF | apply r_nil) | ((with_reducible apply m_fld1); (· exact qF); (· kernel_rfl); (· rfl); intro _ _ _) | ((with_reducible apply m_ld1); (· exact qF); (· exact qM); (· kernel_rfl); (· rfl)) | with_reducible apply jn_of | (with_reducible apply r_addW)
      refine m_dkSt hT h2 hid { m with ar := m.ar - 1, dn := false, wr := IntKind.i64.wrap (m.wr + 1) } z (o := 2) (by omega) (by kernel_rfl) (by omega) rfl rfl rfl h2.ar fun w1 X1 hT h3 c1 => ?_
      clear hb h2
      have hb := h3.box.mv (Mv.sub hT.inX)
      repeat' first | with_reducible apply r_nil | ((with_reducible apply m_fld1); (· exact qF); (· kernel_rfl); (· rfl); intro _ _ _) | ((with_reducible apply m_ld1); (· exact qF); (· exact qM); (· kernel_rfl); (· rfl))
      refine hT.fin fun wa hk9 => ⟨by rw [DM.tick, if_neg ha1, hdn], ?_⟩
      rw [DM.tick, if_neg ha1]
      have h4 := h3.mv (hk9.mvA hT.inX)
      rw [← hdn] at h4
      exact h4
  · have ha1 : ¬ m.ar = 1 := by omega
    have ha0 : m.ar - 1 = m.ar := by omega
    repeat' first | with_reducible apply r_nil | ((with_reducible apply m_fld1); (· exact qF); (· kernel_rfl); (· rfl); intro _ _ _) | (with_reducible apply r_addW)
    refine m_dkSt hT h0 hid { m with wr := IntKind.i64.wrap (m.wr + 1) } z (o := 2) (by omega) (by kernel_rfl) (by omega) rfl rfl rfl h0.ar fun w1 X1 hT h3 c1 => ?_
    clear hb h0
    have hb := h3.box.mv (Mv.sub hT.inX)
    rw [hdn] at hb
    repeat' first | with_reducible apply r_nil | ((with_reducible apply m_fld1); (· exact qF); (· kernel_rfl); (· rfl); intro _ _ _) | ((with_reducible apply m_ld1); (· exact qF); (· exact qM); (· kernel_rfl); (· rfl))
    refine hT.fin fun wa hk9 => ⟨by rw [DM.tick, if_neg ha1, hdn], ?_⟩
    rw [DM.tick, if_neg ha1, ha0]
    exact h3.mv (hk9.mvA hT.inX)
theorem c_disk_name (n : ByteArray) : Pure Tryz.prog 73 #[.string n] (B (nameOk n)) := by
  intro w0
  apply ok_disk_name; unfold vc_disk_name
  have hs := Since.init w0
  repeat' first | with_reducible (first | apply un_selT | apply un_selFT | apply grdV_onT | apply grdW_offT | apply rdW_pickT | apply rdW_pickF) | (with_reducible apply r_leq <;> intro _) | (with_reducible apply r_geq <;> intro _) | ((with_reducible apply r_lnT); (· kernel_rfl)) | ((with_reducible refine fin_pure hs ?_); (simp_all [nameOk] <;> omega))
theorem d_disk_New {w : World} {X : XS} : Ct Tryz.prog 11 #[] w X nX fun v wa w' => ∃ db, v = ptr db 0 ∧ Dk w' (made wa w') db ⟨[], 0, 0, false⟩ := by
  intro w0 hk
  apply ok_disk_New; unfold vc_disk_New
  have hs := Since.init w0
  refine m_makeMap (kv := Value.string) rdF nX hs.has fun mb w1 X1 hmb hs1 hm1 => ?_
  replace hs := hs.trans hs1
  refine r_bld (by kernel_rfl) ?_
  refine m_boxA hs.has fun bx w2 X2 hbx hs2 hrow => ?_
  have hm2 := hm1.mv rdF_mv hs2.mv (fun _ h => h.elim) (A' := nX)
  have hz := hs.kp.size
  refine fin_ret0 (hs.trans hs2) fun wa hk9 => ⟨bx, rfl, mb, [], ⟨rfl, ⟨⟨by omega, (hrow.kp hk9).lt⟩, (hrow.kp hk9).2⟩, ?_, by simp, by simp, List.Pairwise.nil, by decide, by simp⟩, by decide⟩
  exact hm2.own.mv rdF_mv (Mv.one hk9 hm2.x.1 ⟨hmb, Nat.lt_of_lt_of_le hm2.x.2 hk9.size⟩) fun _ h => h.elim
theorem d_disk_Down {w : World} {X F : XS} {db : Nat} {m : DM} (h : Dk w F db m) (hF : FX F X w) : Ct Tryz.prog 80 #[ptr db 0] w X nX fun v wa w' => v = B m.dn := by
  intro w0 hk
  obtain ⟨mb, l, h0, hz⟩ := h.mv (hF.mv hk)
  have hb := h0.box.mv (Mv.sub fun k hk' => (hF.kp hk k hk').1)
  apply ok_disk_Disk_Down; unfold vc_disk_Disk_Down
  have hs := Since.init w0
  repeat' first | with_reducible apply r_nil | ((with_reducible apply m_fld1); (· exact qF); (· kernel_rfl); (· rfl); intro _ _ _) | ((with_reducible apply m_ld1); (· exact qF); (· exact qM); (· kernel_rfl); (· rfl)) | ((first | (with_reducible refine fin_ret0 hs ?_) | (with_reducible refine fin_ret0 (hs0.trans hs) ?_)); intro wa hk; rfl)
theorem d_disk_has {w : World} {X F : XS} {db : Nat} {m : DM} {n : ByteArray} (h : Dk w F db m) (hF : FX F X w) : Ct Tryz.prog 173 #[ptr db 0, .string n] w X nX fun v wa w' => v = I (if (m.get n).isSome then 0 else 8) := by
  intro w0 hk
  obtain ⟨mb, l, h0, hz⟩ := h.mv (hF.mv hk)
  have hX := fun k hk' => (hF.kp hk k hk').1
  have hb := h0.box.mv (Mv.sub hX)
  have hg := h0.get n
  have hm := h0.map.mv rdF_mv (Mv.sub hX) (A' := nX) fun _ h => h.elim
  apply ok_disk_Disk_has; unfold vc_disk_Disk_has
  have hs := Since.init w0
  repeat' first | with_reducible apply r_nil | ((with_reducible apply m_fld1); (· exact qF); (· kernel_rfl); (· rfl); intro _ _ _) | ((with_reducible apply m_ld1); (· exact qF); (· exact qM); (· kernel_rfl); (· rfl))
  refine m_fileGet hm (fun f h1 => ?_) fun h1 => ?_
  · repeat' first | with_reducible apply condW_F | ((with_reducible apply m_pnilF); (· kernel_rfl)) | ((first | (with_reducible refine fin_ret0 hs ?_) | (with_reducible refine fin_ret0 (hs0.trans hs) ?_)); intro wa hk; (rw [hg, h1]; rfl))
  · repeat' first | with_reducible apply condW_T | ((with_reducible apply m_pnilT); (· kernel_rfl)) | ((first | (with_reducible refine fin_ret0 hs ?_) | (with_reducible refine fin_ret0 (hs0.trans hs) ?_)); intro wa hk; (rw [hg, h1]; rfl))
theorem d_disk_write {w : World} {X F A : XS} {db f : Nat} {a b : Value} {m : DM} {e : Nat} {g : DM → DM} (h : Dk w F db m) (hF : FX F X w) (hA : ∀ k, A k → X k ∧ k < w.heap.size ∧ ¬ F k) (hf : enters Tryz.prog f = true)
    (hdo : e = 0 → ∀ w1 X1, Mv A w A w1 → (∀ k, A k → X1 k) → FX F X1 w1 → Dk w1 F db m.tick → Ct Tryz.prog f #[a, b] w1 X1 F fun v wa w' => v = .tuple #[] ∧ ∃ F', (∀ k, F' k → F k ∨ made wa w' k) ∧ Dk w' F' db (g m.tick)) :
    Ct Tryz.prog 172 #[ptr db 0, I e, .func (.func f) #[] #[a, b]] w X F fun v wa w' => v = I (m.write e g).2 ∧ ∃ F', (∀ k, F' k → F k ∨ made wa w' k) ∧ Dk w' F' db (m.write e g).1 := by
  intro w0 hk
  obtain ⟨mb, l, h0, hz⟩ := h.mv (hF.mv hk)
  have hT := hF.ft hk
  have hF0 : FX F (old w0) w0 := hF.kp hk
  have hAm : Mv A w A w0 := fun k hk' _ => ⟨hk', hk.block k (hA k hk').1⟩
  have hb := h0.box.mv (Mv.sub hT.inX)
  have hs := Since.init w0
  have stay : ∀ {w1 X1} (m' : DM), Ft w0 F w1 X1 F → DkL w1 F db mb l m' m'.sz → m'.sz ≤ 4194304 → ∀ wa, Kp X1 w1 wa → ∃ F', (∀ k, F' k → F k ∨ made w0 wa k) ∧ Dk wa F' db m' := fun m' hT h1 hz wa hk9 => ⟨F, hT.grew hk9 fun _ h => h, mb, l, h1.mv (hk9.mvA hT.inX), hz⟩
  have htz : m.tick.sz = m.sz := by unfold DM.tick DM.sz; split <;> rfl
  apply ok_disk_Disk_write; unfold vc_disk_Disk_write
  cases hdn : m.dn
  · rw [hdn] at hb
    repeat' first | with_reducible (first | apply condW_T | apply condW_F | apply r_nil) | (with_reducible apply r_neq <;> intro _) | ((with_reducible apply m_fld1); (· exact qF); (· kernel_rfl); (· rfl); intro _ _ _) | ((with_reducible apply m_ld1); (· exact qF); (· exact qM); (· kernel_rfl); (· rfl))
    · have he : e ≠ 0 := by omega
      refine hT.fin fun wa hk9 => ⟨?_, ?_⟩
      · simp [DM.write, hdn, he]
      · simp only [DM.write, hdn, he, Bool.false_eq_true, if_false, ne_eq, not_false_eq_true, if_true]
        exact stay m hT h0 hz wa hk9
    · have he : e = 0 := by omega
      refine hT.call (d_disk_last h0 hF0 hdn) (by kernel_rfl) (fun _ h => h) fun v wa w2 X2 hq hle hin hT2 hc => ?_
      obtain ⟨rfl, h2⟩ := hq
      replace hT2 : Ft w0 F w2 X2 F := hT2.less fun k hk => .inl hk
      rw [← htz] at h2
      cases ht : m.tick.dn
      · repeat' first | with_reducible apply condW_F | ((with_reducible apply m_fun); (· rfl))
        refine hT2.call (hdo he w2 X2 (hAm.trans (hc.mvA fun k hk' => ⟨Nat.lt_of_lt_of_le (hA k hk').2.1 hk.size, (hA k hk').2.2⟩)) (fun k hk' => hc.sub k (Nat.lt_of_lt_of_le (hA k hk').2.1 hk.size)) (hT2.fx fun _ h => h) ⟨mb, l, h2, htz ▸ hz⟩) hf (fun _ h => h) fun v wa3 w3 X3 hq3 hle3 hin3 hT3 hc3 => ?_
        obtain ⟨rfl, F', hF', hD⟩ := hq3
        refine hT3.fin fun wa9 hk9 => ⟨?_, F', hT3.grew hk9 hF', ?_⟩
        · simp [DM.write, hdn, he, ht]
        · simp only [DM.write, hdn, he, ht, Bool.false_eq_true, if_false, ne_eq, not_true_eq_false]
          exact hD.mv (hk9.mvA fun k hk' => hT3.inX k (hF' k hk'))
      · repeat' first | with_reducible apply condW_T
        refine hT2.fin fun wa hk9 => ⟨?_, ?_⟩
        · simp [DM.write, hdn, he, ht]
        · simp only [DM.write, hdn, he, ht, Bool.false_eq_true, if_false, ne_eq, not_true_eq_false, if_true]
          exact stay _ hT2 h2 (htz ▸ hz) wa hk9
  · rw [hdn] at hb
    repeat' first | with_reducible (first | apply condW_T | apply r_nil) | ((with_reducible apply m_fld1); (· exact qF); (· kernel_rfl); (· rfl); intro _ _ _) | ((with_reducible apply m_ld1); (· exact qF); (· exact qM); (· kernel_rfl); (· rfl))
    refine hT.fin fun wa hk9 => ⟨?_, ?_⟩
    · simp [DM.write, hdn]
    · simp only [DM.write, hdn, if_true]
      exact stay m hT h0 hz wa hk9
section
variable {R : Ending → World → Prop} {w w0 : World} {X F F0 G : XS} {db mb z : Nat} {l : List (ByteArray × FileM)} {m : DM} {n : ByteArray} {f : FileM} {N : Value → World → XS → Prop}
theorem m_fileSafe {o' : Nat} {x : Int} {s' : Nat} (hT : Ft w0 F0 w X F) (h : DkL w G db mb l m z) (hG : ∀ k, G k → F k) (hn : getM n l = some f) (ho : o' = 1) (hx : x = s') (hs : s' ≤ f.bs.length)
    (k : ∀ w' X', Ft w0 F0 w' X' F → DkL w' G db mb (putM n ⟨f.b, f.v, f.bs, s'⟩ l) (m.put n f.bs s') z → N undef w' X') : eU Tryz.prog R X w true (st1 3 1 (ptr f.b o') (I x)) N := by
  subst ho; subst hx
  have hX : ∀ k, G k → X k := fun k hk => hT.inX k (hG k hk)
  have hr := h.row _ (mem_get hn)
  have ho := h.ow _ (mem_get hn)
  refine m_st1 (hr.mv (Mv.sub hX)) (by kernel_rfl) (by simp) rfl rfl hT.s.has fun w' X' c hr' => ?_
  have hT' : Ft w0 F0 w' X' F := hT.chg c (fun k hk => by subst hk; exact hG _ hr.1) fun k hk => .inl hk
  refine k w' X' hT' (h.upd (F' := G) (hT.fx hG) c hn (fun k hk => .inl hk) (fun _ h => h) ⟨hr.1, hr'.2⟩ ?_ (.inl rfl) hs)
  exact ho.tight.mv fun k hk hl => ⟨(ho.inX hk).1, c.block k (hX k (ho.inX hk).1) fun e => ho.neRow hr (by kernel_rfl) (by rw [← (show k = f.b from e)]; exact hk)⟩
theorem m_fileApp {vs : Value} {b : List Nat} (hT : Ft w0 F0 w X F) (h : DkL w G db mb l m z) (hG : ∀ k, G k → F k) (hn : getM n l = some f) (src : Sl w X 1 vs (b.map U1)) (hl : f.bs.length + b.length ≤ 2 ^ 40)
    (k : ∀ w' X', Ft w0 F0 w' X' (fun k => F k ∨ (X' k ∧ w.heap.size ≤ k)) → (∃ v', DkL w' (fun k => G k ∨ (X' k ∧ w.heap.size ≤ k)) db mb (putM n ⟨f.b, v', f.bs ++ b, f.safe⟩ l) (m.put n (f.bs ++ b) f.safe) z) → N undef w' X') :
    eV Tryz.prog R X w true (apS 95 5 1 1 95 f.v vs) fun x w1 X1 => rdW Tryz.prog X1 w1 (nilN (ptr f.b 0)) fun p => rdV Tryz.prog X1 w1 (fld 141 0 0 1 p) fun q => eU Tryz.prog R X1 w1 true (st1 95 1 q x) N := by
  have hX : ∀ k, G k → X k := fun k hk => hT.inX k (hG k hk)
  have hr := h.row _ (mem_get hn)
  have ho := h.ow _ (mem_get hn)
  have hsf := h.safe _ (mem_get hn)
  have hne : f.v.ownBlock ≠ some f.b := ho.neRow hr (by kernel_rfl)
  refine eV_apO (by kernel_rfl) hT.s.has (ho.mono hX) src (by intro r hr u hu; obtain ⟨x, _, rfl⟩ := List.mem_map.1 hr; simp only [U1, List.mem_singleton] at hu; subst hu; rfl) (by simp; omega) (by simp; omega) fun v' w1 X1 c ho1 hat => ?_
  have hr1 : RowIs w1 X1 f.b [f.v, I f.safe] 141 := ⟨c.sub _ (hX _ hr.1), by rw [c.block _ (hX _ hr.1) fun e => hne e]; exact hr.2⟩
  with_reducible apply r_nil
  have hfi : fieldInfo Tryz.prog 141 0 = some (0, 1) := by kernel_rfl
  refine m_fld1 hr1.cells hfi rfl fun o' ho' _ => ?_
  subst ho'
  have hv1 := one_cells ho1.one
  refine m_st1 hr1 (by kernel_rfl) (by simp) (by rw [hv1]; rfl) (by rw [hv1]; simp [ho1.one]) c.has fun w' X' c' hr' => ?_
  rw [hv1] at hr'
  have cc : Chg (fun k => k = f.b ∨ f.v.ownBlock = some k) X w X' w' := (c.mono fun k _ hk => .inr hk).trans (c'.mono fun k _ hk => .inl hk)
  have hne1 : v'.ownBlock ≠ some f.b := ho1.neRow hr1 (by kernel_rfl)
  have hin : ∀ g, v'.ownBlock = some g → G g ∨ (X' g ∧ w.heap.size ≤ g) := fun g hg => by
    rcases hat with e | ⟨g', e, hge⟩
    · exact .inl (ho.inX (e ▸ hg)).1
    · rw [hg] at e
      have : g = g' := Option.some.inj e
      subst this
      exact .inr ⟨c'.sub _ (ho1.inX hg).1, hge⟩
  have ho2 : Ow w' (fun k => G k ∨ (X' k ∧ w.heap.size ≤ k)) 5 1 v' ((f.bs ++ b).map U1) := by
    rw [List.map_append]
    exact ho1.tight.mv fun k hk hl => ⟨hin k hk, c'.block k (ho1.inX hk).1 fun e => hne1 (by rw [← (show k = f.b from e)]; exact hk)⟩
  refine k w' X' (hT.chg cc (fun k hk => ?_) fun k hk => hk) ⟨v', h.upd (F' := fun k => G k ∨ (X' k ∧ w.heap.size ≤ k)) (hT.fx hG) cc hn (fun k hk => hk) (fun k hk => .inl hk) ⟨.inl hr.1, ?_⟩ ho2 hat (by rw [List.length_append]; have : f.safe ≤ f.bs.length := hsf; omega)⟩
  · rcases hk with rfl | hk
    · exact hG _ hr.1
    · exact hG _ (ho.inX hk).1
  · exact hr'.2
end
theorem d_disk_Append {w : World} {X F S : XS} {db : Nat} {m : DM} {n : ByteArray} {vb : Value} {b : List Nat} (h : Dk w F db m) (hF : FX F X w) (hb : Sl w S 1 vb (b.map U1)) (hS : ∀ k, S k → X k ∧ ¬ F k) (hbl : b.length ≤ 2 ^ 30) :
    Ct Tryz.prog 170 #[ptr db 0, .string n, vb] w X F fun v wa w' => v = I (m.append n b).2 ∧ ∃ F', (∀ k, F' k → F k ∨ made wa w' k) ∧ Dk w' F' db (m.append n b).1 := by
  intro w0 hk
  obtain ⟨mb, l, h0, hz⟩ := h.mv (hF.mv hk)
  have hT := hF.ft hk
  have hF0 : FX F (old w0) w0 := hF.kp hk
  replace hb : Sl w0 (fun k => S k ∧ k < w0.heap.size) 1 vb (b.map U1) := hb.mv fun k hk' hl => ⟨⟨hk', Nat.lt_of_lt_of_le hl hk.size⟩, hk.block k (hS k hk').1⟩
  have hbx := h0.box.mv (Mv.sub hT.inX)
  have hs := Since.init w0
  have hg := h0.get n
  have hm := h0.map.mv rdF_mv (Mv.sub hT.inX) (A' := nX) fun _ h => h.elim
  apply ok_disk_Disk_Append; unfold vc_disk_Disk_Append
  repeat' first | with_reducible apply r_nil | ((with_reducible apply m_fld1); (· exact qF); (· kernel_rfl); (· rfl); intro _ _ _) | ((with_reducible apply m_ld1); (· exact qF); (· exact qM); (· kernel_rfl); (· rfl))
  refine m_fileGet hm (fun f hn => ?_) fun hn => ?_
  · have hgm : m.get n = some (f.bs, f.safe) := by rw [hg, hn]; rfl
    have hbl2 := DM.get_len hgm
    cases hdn : m.dn
    · rw [hdn] at hbx
      repeat' first | with_reducible (first | apply condW_T | apply condW_F | apply r_nil) | (with_reducible apply r_gtr <;> intro _) | ((with_reducible apply m_fld1); (· exact qF); (· kernel_rfl); (· rfl); intro _ _ _) | ((with_reducible apply m_ld1); (· exact qF); (· exact qM); (· kernel_rfl); (· rfl)) | ((with_reducible apply m_lnS); (· exact qO); (· kernel_rfl)) | ((with_reducible apply m_pnilF); (· kernel_rfl)) | ((with_reducible apply r_sub); (· omega); (· omega))
      · refine hT.fin fun wa hk9 => ⟨?_, F, hT.grew hk9 fun _ h => h, ?_⟩
        · simp only [DM.append, hdn, hgm, Bool.false_eq_true, if_false]; rw [if_pos (by omega)]; rfl
        · simp only [DM.append, hdn, hgm, Bool.false_eq_true, if_false]; rw [if_pos (by omega)]; exact ⟨mb, l, h0.mv (hk9.mvA hT.inX), hz⟩
      · have hfit : ¬ 4194304 - m.sz < b.length := by omega
        refine hT.call (d_disk_last h0 hF0 hdn) (by kernel_rfl) (fun _ h => h) fun v wa w2 X2 hq hle hin hT2 hc => ?_
        obtain ⟨rfl, h2⟩ := hq
        replace hT2 : Ft w0 F w2 X2 F := hT2.less fun k hk => .inl hk
        have hr2 := (h2.row _ (mem_get hn)).mv (Mv.sub hT2.inX)
        repeat' first | with_reducible apply r_nil | ((with_reducible apply m_fld1); (· exact qF); (· kernel_rfl); (· rfl); intro _ _ _) | ((with_reducible apply m_ld1); (· exact qF); (· exact qM); (· kernel_rfl); (· rfl))
        refine m_fileApp hT2 h2 (fun _ h => h) hn ((hb.mv (hc.mvA fun k hk' => ⟨hk'.2, (hS k hk'.1).2⟩)).mono fun k hk' => hc.sub k hk'.2) (show f.bs.length + b.length ≤ 2 ^ 40 by omega) fun w3 X3 hT3 ⟨v', h3⟩ => ?_
        have hb3 := h3.box.mv (Mv.sub hT3.inX)
        have htz := m.tick_sz
        repeat' first | with_reducible apply r_nil | ((with_reducible apply m_fld1); (· exact qF); (· kernel_rfl); (· rfl); intro _ _ _) | ((with_reducible apply m_ld1); (· exact qF); (· exact qM); (· kernel_rfl); (· rfl)) | ((with_reducible apply m_lnS); (· exact qO); (· kernel_rfl)) | ((with_reducible apply r_add); (· omega); (· omega))
        have hnew := DM.put_sz (bs := f.bs ++ b) (s' := f.safe) ((m.tick_get n).trans hgm)
        have hlen : (f.bs ++ b).length = f.bs.length + b.length := List.length_append
        refine m_dkSt hT3 h3 (fun _ h => h) (m.tick.put n (f.bs ++ b) f.safe) (m.tick.put n (f.bs ++ b) f.safe).sz (o := 1) (by omega) (by kernel_rfl) (by omega) rfl (by rw [show (((m.tick.put n (f.bs ++ b) f.safe).sz : Nat) : Int) = (m.sz : Int) + (b.length : Int) by omega]; rfl) rfl h3.ar fun w4 X4 hT4 h4 c4 => ?_
        have hb4 := h4.box.mv (Mv.sub hT4.inX)
        have fin : ∀ wa, Kp X4 w4 wa → ∃ F', (∀ k, F' k → F k ∨ made w0 wa k) ∧ Dk wa F' db (m.append n b).1 := fun wa hk9 => ⟨_, hT4.grew hk9 fun _ h => h, by
          simp only [DM.append, hdn, hgm, Bool.false_eq_true, if_false]; rw [if_neg hfit]
          exact ⟨mb, _, h4.mv (hk9.mvA hT4.inX), by show (m.tick.put n (f.bs ++ b) f.safe).sz ≤ _; omega⟩⟩
        cases ht : m.tick.dn
        · repeat' first | with_reducible apply condW_F
          refine hT4.fin fun wa hk9 => ⟨?_, fin wa hk9⟩
          simp only [DM.append, hdn, hgm, Bool.false_eq_true, if_false]; rw [if_neg hfit]; simp [ht]
        · repeat' first | with_reducible apply condW_T
          refine hT4.fin fun wa hk9 => ⟨?_, fin wa hk9⟩
          simp only [DM.append, hdn, hgm, Bool.false_eq_true, if_false]; rw [if_neg hfit]; simp [ht]
    · rw [hdn] at hbx
      repeat' first | with_reducible (first | apply condW_T | apply r_nil) | ((with_reducible apply m_fld1); (· exact qF); (· kernel_rfl); (· rfl); intro _ _ _) | ((with_reducible apply m_ld1); (· exact qF); (· exact qM); (· kernel_rfl); (· rfl))
      refine hT.fin fun wa hk9 => ⟨?_, F, hT.grew hk9 fun _ h => h, ?_⟩
      · simp [DM.append, hdn]
      · simp only [DM.append, hdn, if_true]; exact ⟨mb, l, h0.mv (hk9.mvA hT.inX), hz⟩
  · have hgm : m.get n = none := by rw [hg, hn]; rfl
    cases hdn : m.dn
    · rw [hdn] at hbx
      repeat' first | with_reducible (first | apply condW_T | apply condW_F | apply r_nil) | ((with_reducible apply m_fld1); (· exact qF); (· kernel_rfl); (· rfl); intro _ _ _) | ((with_reducible apply m_ld1); (· exact qF); (· exact qM); (· kernel_rfl); (· rfl)) | ((with_reducible apply m_pnilT); (· kernel_rfl))
      refine hT.fin fun wa hk9 => ⟨?_, F, hT.grew hk9 fun _ h => h, ?_⟩
      · simp [DM.append, hdn, hgm]
      · simp only [DM.append, hdn, hgm, Bool.false_eq_true, if_false]; exact ⟨mb, l, h0.mv (hk9.mvA hT.inX), hz⟩
    · rw [hdn] at hbx
      repeat' first | with_reducible (first | apply condW_T | apply r_nil) | ((with_reducible apply m_fld1); (· exact qF); (· kernel_rfl); (· rfl); intro _ _ _) | ((with_reducible apply m_ld1); (· exact qF); (· exact qM); (· kernel_rfl); (· rfl))
      refine hT.fin fun wa hk9 => ⟨?_, F, hT.grew hk9 fun _ h => h, ?_⟩
      · simp [DM.append, hdn]
      · simp only [DM.append, hdn, if_true]; exact ⟨mb, l, h0.mv (hk9.mvA hT.inX), hz⟩
theorem d_disk_Sync1 {w : World} {X F : XS} {db bd bn : Nat} {m : DM} {n : ByteArray} (h : Dk w F db m) (hF : FX F X w) (hd : RowIs w X bd [ptr db 0] 26) (hn : RowIs w X bn [.string n] 9) (hg : (m.get n).isSome = true) :
    Ct Tryz.prog 253 #[ptr bd 0, ptr bn 0] w X F fun v wa w' => v = .tuple #[] ∧ ∃ F', (∀ k, F' k → F k ∨ made wa w' k) ∧ Dk w' F' db (DM.syncF n m) := by
  intro w0 hk
  obtain ⟨mb, l, h0, hz⟩ := h.mv (hF.mv hk)
  have hT := hF.ft hk
  replace hd := hd.mv hk.mvo
  replace hn := hn.mv hk.mvo
  have hbx := h0.box.mv (Mv.sub hT.inX)
  have hs := Since.init w0
  have hgm := h0.get n
  have hm := h0.map.mv rdF_mv (Mv.sub hT.inX) (A' := nX) fun _ h => h.elim
  apply ok_disk_Disk_Sync_c1; unfold vc_disk_Disk_Sync_c1
  repeat' first | with_reducible apply r_nil | ((with_reducible apply m_fld1); (· exact qF); (· kernel_rfl); (· rfl); intro _ _ _) | ((with_reducible apply m_ld1); (· exact qF); (· exact qM); (· kernel_rfl); (· rfl))
  refine m_fileGet hm (fun f h1 => ?_) fun h1 => ?_
  · repeat' first | with_reducible apply r_nil | ((with_reducible apply m_fld1); (· exact qF); (· kernel_rfl); (· rfl); intro _ _ _) | ((with_reducible apply m_ld1); (· exact qF); (· exact qM); (· kernel_rfl); (· rfl))
    refine m_fileGet hm (fun f' h2 => ?_) fun h2 => ?_
    · rw [h1] at h2; cases h2
      have hr := (h0.row _ (mem_get h1)).mv (Mv.sub hT.inX)
      have ho := (h0.ow _ (mem_get h1)).sl
      have hgm' : m.get n = some (f.bs, f.safe) := by rw [hgm, h1]; rfl
      repeat' first | with_reducible apply r_nil | ((with_reducible apply m_fld1); (· exact qF); (· kernel_rfl); (· rfl); intro _ _ _) | ((with_reducible apply m_ld1); (· exact qF); (· exact qM); (· kernel_rfl); (· rfl)) | ((with_reducible apply m_lnS); (· exact qO); (· kernel_rfl))
      refine m_fileSafe hT h0 (fun _ h => h) h1 (s' := f.bs.length) (by omega) rfl (Nat.le_refl _) fun w1 X1 hT1 h3 => ?_
      refine hT1.fin fun wa hk9 => ⟨rfl, F, hT1.grew hk9 fun _ h => h, ?_⟩
      have e : DM.syncF n m = m.put n f.bs f.bs.length := by unfold DM.syncF; rw [hgm']
      have hsz := m.syncF_sz n
      rw [e] at hsz ⊢
      exact ⟨mb, _, by rw [hsz]; exact h3.mv (hk9.mvA hT1.inX), by omega⟩
    · rw [h1] at h2; cases h2
  · rw [hgm, h1] at hg; cases hg
theorem d_disk_Sync {w : World} {X F : XS} {db : Nat} {m : DM} {n : ByteArray} (h : Dk w F db m) (hF : FX F X w) :
    Ct Tryz.prog 171 #[ptr db 0, .string n] w X F fun v wa w' => v = I (m.sync n).2 ∧ ∃ F', (∀ k, F' k → F k ∨ made wa w' k) ∧ Dk w' F' db (m.sync n).1 := by
  intro w0 hk
  replace h := h.mv (hF.mv hk)
  have hT := hF.ft hk
  have hF0 : FX F (old w0) w0 := hF.kp hk
  clear hF
  apply ok_disk_Disk_Sync; unfold vc_disk_Disk_Sync
  refine m_boxS rfl hT.s.has fun bd w1 X1 hbd hs1 hrd => ?_
  refine m_boxS rfl hs1.has fun bn w2 X2 hbn hs2 hrn => ?_
  have hs12 := hs1.trans hs2
  have hT2 := hT.since hs12
  have hrd2 := hrd.since hs2
  have h2 : Dk w2 F db m := h.mv (hs12.mvF fun k hk' => (hF0 k hk').1)
  have hs := Since.refl' hs2.has
  repeat' first | ((with_reducible apply m_ld1); (· exact qF); (· exact qM); (· kernel_rfl); (· rfl)) | (with_reducible apply m_mkFun)
  refine r_ct0 (d_disk_has h2 (hT2.fx fun _ h => h)) (by kernel_rfl) hs.has ?_
  rintro v wa w3 X3 rfl hle hin hs3
  have hT3 := hT2.since hs3
  have h3 : Dk w3 F db m := h2.mv (hs3.mvF hT2.inX)
  have hbd1 := hrd.lt
  have hbdX := hs3.sub _ hrd2.1
  have hbnX := hs3.sub _ hrn.1
  have hrd3 := hrd2.since hs3
  have hrn3 := hrn.since hs3
  have e8 : I (if (m.get n).isSome then 0 else 8) = I (((if (m.get n).isSome then 0 else 8 : Nat)) : Nat) := by split <;> rfl
  rw [e8]
  refine hT3.call (d_disk_write (A := fun k => k = bd ∨ k = bn) (g := DM.syncF n) h3 (hT3.fx fun _ h => h) (fun k hk' => ?_) (by kernel_rfl) ?_) (by kernel_rfl) (fun _ h => h) fun v wa4 w4 X4 hq hle4 hin4 hT4 hc4 => ?_
  · rcases hk' with rfl | rfl
    · exact ⟨hbdX, hrd3.lt, fun hf => by have := (hF0 _ hf).2; omega⟩
    · exact ⟨hbnX, hrn3.lt, fun hf => by have := (hF0 _ hf).2; have := hs1.kp.size; omega⟩
  · intro he w5 X5 hm5 hx5 hF5 h5
    refine d_disk_Sync1 h5 hF5 ⟨hx5 _ (.inl rfl), ?_⟩ ⟨hx5 _ (.inr rfl), ?_⟩ ?_
    · rw [(hm5 bd (.inl rfl) (hrd3.lt)).2]; exact hrd3.2
    · rw [(hm5 bn (.inr rfl) (hrn3.lt)).2]; exact hrn3.2
    · rw [m.tick_get]
      cases hgs : (m.get n).isSome
      · rw [hgs] at he; cases he
      · rfl
  · obtain ⟨rfl, F', hF', hD⟩ := hq
    skip
    refine hT4.fin fun wa9 hk9 => ⟨rfl, F', hT4.grew hk9 hF', hD.mv (hk9.mvA fun k hk' => hT4.inX k (hF' k hk'))⟩
theorem d_disk_Create1 {w : World} {X F : XS} {db bd bn : Nat} {m : DM} {n : ByteArray} (h : Dk w F db m) (hF : FX F X w) (hd : RowIs w X bd [ptr db 0] 26) (hn : RowIs w X bn [.string n] 9) (hg : m.get n = none) :
    Ct Tryz.prog 204 #[ptr bd 0, ptr bn 0] w X F fun v wa w' => v = .tuple #[] ∧ ∃ F', (∀ k, F' k → F k ∨ made wa w' k) ∧ Dk w' F' db (m.put n [] 0) := by
  intro w0 hk
  obtain ⟨mb, l, h0, hz⟩ := h.mv (hF.mv hk)
  have hT := hF.ft hk
  have hF0 : FX F (old w0) w0 := hF.kp hk
  replace hd := hd.mv hk.mvo
  replace hn := hn.mv hk.mvo
  have hbx := h0.box.mv (Mv.sub hT.inX)
  have hs := Since.init w0
  have hgm := h0.get n
  have hm := h0.map.mv rdF_mv (Mv.sub hT.inX) (A' := nX) fun _ h => h.elim
  have hgn : getM n l = none := by
    rw [hg] at hgm
    cases hq : getM n l with
    | none => rfl
    | some f => rw [hq] at hgm; cases hgm
  apply ok_disk_Disk_Create_c1; unfold vc_disk_Disk_Create_c1
  repeat' first | with_reducible apply r_nil | ((with_reducible apply m_fld1); (· exact qF); (· kernel_rfl); (· rfl); intro _ _ _) | ((with_reducible apply m_ld1); (· exact qF); (· exact qM); (· kernel_rfl); (· rfl)) | ((with_reducible apply r_bld); (· kernel_rfl)) | ((with_reducible apply m_boxA); (case hX => exact hs.has); intro bx w X hbx hs1 hrow; have hs0 := hs.trans hs1; replace hs := Since.refl' hs1.has)
  have hm1 := hm.mv rdF_mv hs0.mv (A' := nX) fun _ h => h.elim
  refine m_mapPut (kt := 9) (et := 135) (a := ⟨bx, .slice none 0 0, [], 0⟩) hm1 rdF_mv (show rdF _ _ (ptr bx 0) ⟨bx, .slice none 0 0, [], 0⟩ from rfl) (fun _ h => h.elim) (key_string (by kernel_rfl)) (by kernel_rfl) hs0.has fun w2 X2 c hm2 => ?_
  have hT1 := hT.since hs0
  have hbm : bx ≠ mb := (hm1.neRow hrow).symm
  have hT2 : Ft w0 F w2 X2 (fun k => F k ∨ k = bx) := (hT1.more (F' := fun k => F k ∨ k = bx) fun k hk' => hk'.imp id fun e => by subst e; exact ⟨hrow.1, hbx⟩).chg c (fun k hk' => by subst hk'; exact .inl h0.map.x.1) fun k hk' => .inl hk'
  have hcc : Chg (· = mb) (old w0) w0 X2 w2 := (Chg.of_since hs0 _).trans c
  refine hT2.fin fun wa hk9 => ⟨rfl, _, hT2.grew hk9 fun _ h => h, ?_⟩
  have hsz := DM.put_new (bs := []) (s' := 0) hg
  have hL := h0.new (F' := fun k => F k ∨ k = bx) hF0 hcc hgn (fun k hk' => hk') (fun k hk' => .inl hk') hbx (hm2.own.mv rdF_mv (fun k hk' hl => ⟨.inl (by subst hk'; exact h0.map.x.1), rfl⟩) fun _ h => h.elim) ⟨.inr rfl, by rw [c.block _ hrow.1 hbm]; exact hrow.2⟩
  have hsz' : (m.put n [] 0).sz = m.sz := by simpa using hsz
  rw [← hsz'] at hL
  exact ⟨mb, _, hL.mv (hk9.mvA hT2.inX), by omega⟩
def DM.createE (m : DM) (n : ByteArray) : Nat := if ¬ nameOk n then 10 else if (m.get n).isSome then 9 else if 64 ≤ m.fs.length then 3 else 0
theorem d_disk_Create {w : World} {X F : XS} {db : Nat} {m : DM} {n : ByteArray} (h : Dk w F db m) (hF : FX F X w) :
    Ct Tryz.prog 140 #[ptr db 0, .string n] w X F fun v wa w' => v = I (m.create n).2 ∧ ∃ F', (∀ k, F' k → F k ∨ made wa w' k) ∧ Dk w' F' db (m.create n).1 := by
  intro w0 hk
  replace h := h.mv (hF.mv hk)
  have hT := hF.ft hk
  have hF0 : FX F (old w0) w0 := hF.kp hk
  clear hF
  obtain ⟨mb, l, h0, hz⟩ := id h
  apply ok_disk_Disk_Create; unfold vc_disk_Disk_Create
  refine m_boxS rfl hT.s.has fun bd w1 X1 hbd hs1 hrd => ?_
  refine m_boxS rfl hs1.has fun bn w2 X2 hbn hs2 hrn => ?_
  have hs12 := hs1.trans hs2
  have hs := Since.refl' hs2.has
  have hrd2 := hrd.since hs2
  have hX := fun k hk' => hs12.sub k (hT.inX k hk')
  have hbx := (h0.box.mv (Mv.sub hT.inX)).since hs12
  have hm := (h0.map.mv rdF_mv (Mv.sub hT.inX) (A' := nX) fun _ h => h.elim).mv rdF_mv hs12.mv (A' := nX) fun _ h => h.elim
  have hgm := h0.get n
  have hlen := h0.len
  have key : ∀ (w3 : World) (X3 : XS) (e : Nat), Since X2 w2 X3 w3 → m.createE n = e → eC Tryz.prog (Ret F w0 fun v w' => v = I (m.create n).2 ∧ ∃ F', (∀ k, F' k → F k ∨ made w0 w' k) ∧ Dk w' F' db (m.create n).1) X3 w3 true 172 #[ptr db 0, I e, .func (.func 204) #[] #[ptr bd 0, ptr bn 0]] fun x w4 X4 =>
      fin (Ret F w0 fun v w' => v = I (m.create n).2 ∧ ∃ F', (∀ k, F' k → F k ∨ made w0 w' k) ∧ Dk w' F' db (m.create n).1) X4 w4 x := by
    intro w3 X3 e hs3 he
    have hs03 := hs12.trans hs3
    have hT3 := hT.since hs03
    have h3 : Dk w3 F db m := h.mv (hs03.mvF fun k hk' => (hF0 k hk').1)
    have hrd3 := hrd2.since hs3
    have hrn3 := hrn.since hs3
    have em : m.create n = m.write e fun m => m.put n [] 0 := by rw [← he]; rfl
    rw [em]
    refine hT3.call (d_disk_write (A := fun k => k = bd ∨ k = bn) (g := fun m => m.put n [] 0) h3 (hT3.fx fun _ h => h) (fun k hk' => ?_) (by kernel_rfl) ?_) (by kernel_rfl) (fun _ h => h) fun v wa4 w4 X4 hq hle4 hin4 hT4 hc4 => ?_
    · rcases hk' with rfl | rfl
      · exact ⟨hrd3.1, hrd3.lt, fun hf => by have := (hF0 _ hf).2; omega⟩
      · exact ⟨hrn3.1, hrn3.lt, fun hf => by have := (hF0 _ hf).2; have := hs1.kp.size; omega⟩
    · intro he0 w5 X5 hm5 hx5 hF5 h5
      refine d_disk_Create1 h5 hF5 ⟨hx5 _ (.inl rfl), ?_⟩ ⟨hx5 _ (.inr rfl), ?_⟩ ?_
      · rw [(hm5 bd (.inl rfl) (hrd3.lt)).2]; exact hrd3.2
      · rw [(hm5 bn (.inr rfl) (hrn3.lt)).2]; exact hrn3.2
      · rw [m.tick_get]
        rw [he0] at he
        unfold DM.createE at he
        cases hgs : m.get n with
        | none => rfl
        | some x =>
          rw [hgs] at he; simp at he
          exfalso; split at he <;> omega
    · obtain ⟨rfl, F', hF', hD⟩ := hq
      exact hT4.fin fun wa9 hk9 => ⟨rfl, F', hT4.grew hk9 hF', hD.mv (hk9.mvA fun k hk' => hT4.inX k (hF' k hk'))⟩
  refine jn_by (fun k => ∀ (e : Nat) (w3 : World) (X3 : XS), Since X2 w2 X3 w3 → m.createE n = e → k (I e) w3 X3) ?_ ?_
  · intro e w3 X3 hs3 he
    have hrd3 := hrd2.since hs3
    repeat' first | ((with_reducible apply m_ld1); (· exact qF); (· exact qM); (· kernel_rfl); (· rfl)) | (with_reducible apply m_mkFun)
    exact key w3 X3 e hs3 he
  · intro K hK
    repeat' first | with_reducible (first | apply condW_T | apply condW_F | apply r_notT | apply r_notF | apply r_nil) | ((with_reducible apply m_fld1); (· exact qF); (· kernel_rfl); (· rfl); intro _ _ _) | ((with_reducible apply m_ld1); (· exact qF); (· exact qM); (· kernel_rfl); (· rfl)) | ((with_reducible refine r_pureB (c_disk_name _) ?_ hs.has ?_ ?_); (· kernel_rfl); all_goals (intro _ w X hs1; replace hs := hs.trans hs1))
    · have hrn3 := hrn.since hs
      have hrd3 := hrd2.since hs
      have hbx3 := hbx.since hs
      have hm3 := hm.mv rdF_mv hs.mv (A' := nX) fun _ h => h.elim
      skip
      refine m_fileGet hm3 (fun f hn => ?_) fun hn => ?_
      · repeat' first | with_reducible apply condW_T | ((with_reducible apply m_pneF); (· kernel_rfl))
        exact hK 9 _ _ hs (by simp_all [DM.createE])
      · repeat' first | with_reducible (first | apply condW_T | apply condW_F | apply r_nil) | (with_reducible apply r_geq <;> intro _) | ((with_reducible apply m_fld1); (· exact qF); (· kernel_rfl); (· rfl); intro _ _ _) | ((with_reducible apply m_ld1); (· exact qF); (· exact qM); (· kernel_rfl); (· rfl)) | ((with_reducible apply m_pneT); (· kernel_rfl)) | (refine m_lenM hm3 (kt := 9) (et := 135) (by kernel_rfl) ?_)
        · exact hK 3 _ _ hs (by simp only [DM.createE, hgm, hn]; simp_all <;> omega)
        · exact hK 0 _ _ hs (by simp only [DM.createE, hgm, hn]; simp_all <;> omega)
    · exact hK 10 _ _ hs (by simp_all [DM.createE])
theorem d_disk_drop {w : World} {X F : XS} {db : Nat} {m : DM} {n : ByteArray} (h : Dk w F db m) (hF : FX F X w) (hg : (m.get n).isSome = true) :
    Ct Tryz.prog 175 #[ptr db 0, .string n] w X F fun v wa w' => v = .tuple #[] ∧ Dk w' F db (m.del n) := by
  intro w0 hk
  obtain ⟨mb, l, h0, hz⟩ := h.mv (hF.mv hk)
  have hT := hF.ft hk
  have hbx := h0.box.mv (Mv.sub hT.inX)
  have hs := Since.init w0
  have hgm := h0.get n
  have hm := h0.map.mv rdF_mv (Mv.sub hT.inX) (A' := nX) fun _ h => h.elim
  apply ok_disk_Disk_drop; unfold vc_disk_Disk_drop
  repeat' first | with_reducible apply r_nil | ((with_reducible apply m_fld1); (· exact qF); (· kernel_rfl); (· rfl); intro _ _ _) | ((with_reducible apply m_ld1); (· exact qF); (· exact qM); (· kernel_rfl); (· rfl))
  refine m_fileGet hm (fun f hn => ?_) fun hn => ?_
  · have hgm' : m.get n = some (f.bs, f.safe) := by rw [hgm, hn]; rfl
    have hle := DM.get_len hgm'
    have hr := (h0.row _ (mem_get hn)).mv (Mv.sub hT.inX)
    have ho : Sl w0 F 1 f.v (f.bs.map U1) := (h0.ow _ (mem_get hn)).sl
    have hsz : (m.del n).sz + f.bs.length = m.sz := by
      have hnd : (m.fs.map (·.1)).Nodup := by rw [h0.fs, List.map_map]; exact h0.nodup
      exact sumM_del (f := fun x : List Nat × Nat => x.1.length) hnd hgm'
    repeat' first | with_reducible (first | apply condW_T | apply r_nil) | ((with_reducible apply m_fld1); (· exact qF); (· kernel_rfl); (· rfl); intro _ _ _) | ((with_reducible apply m_ld1); (· exact qF); (· exact qM); (· kernel_rfl); (· rfl)) | ((with_reducible apply m_lnS); (· exact qO); (· kernel_rfl)) | ((with_reducible apply m_pneF); (· kernel_rfl)) | ((with_reducible apply r_sub); (· omega); (· omega))
    refine m_dkSt hT h0 (fun _ h => h) m (m.del n).sz (o := 1) (by omega) (by kernel_rfl) (by omega) rfl (by rw [show (((m.del n).sz : Nat) : Int) = (m.sz : Int) - (f.bs.length : Int) by omega]; rfl) rfl h0.ar fun w1 X1 hT1 h1 c1 => ?_
    have hbx1 := h1.box.mv (Mv.sub hT1.inX)
    have hm1 := h1.map.mv rdF_mv (Mv.sub hT1.inX) (A' := nX) fun _ h => h.elim
    repeat' first | with_reducible apply r_nil | ((with_reducible apply m_fld1); (· exact qF); (· kernel_rfl); (· rfl); intro _ _ _) | ((with_reducible apply m_ld1); (· exact qF); (· exact qM); (· kernel_rfl); (· rfl))
    refine m_mapDel (kt := 9) (et := 135) hm1 rdF_mv (fun _ h => h.elim) (key_string (by kernel_rfl)) (by kernel_rfl) hT1.s.has fun w2 X2 c hm2 => ?_
    have hL := h1.less hT1.inX c hm2
    have hT2 : Ft w0 F w2 X2 F := hT1.chg c (fun k hk' => by subst hk'; exact h1.map.x.1) fun k hk' => .inl hk'
    exact hT2.fin fun wa hk9 => ⟨rfl, mb, _, hL.mv (hk9.mvA hT2.inX), by omega⟩
  · rw [hgm, hn] at hg; cases hg
theorem d_disk_Remove1 {w : World} {X F : XS} {db bd bn : Nat} {m : DM} {n : ByteArray} (h : Dk w F db m) (hF : FX F X w) (hd : RowIs w X bd [ptr db 0] 26) (hn : RowIs w X bn [.string n] 9) (hg : (m.get n).isSome = true) :
    Ct Tryz.prog 174 #[ptr bd 0, ptr bn 0] w X F fun v wa w' => v = .tuple #[] ∧ ∃ F', (∀ k, F' k → F k ∨ made wa w' k) ∧ Dk w' F' db (m.del n) := by
  intro w0 hk
  replace h := h.mv (hF.mv hk)
  have hT := hF.ft hk
  replace hd := hd.mv hk.mvo
  replace hn := hn.mv hk.mvo
  have hs := Since.init w0
  apply ok_disk_Disk_Remove_c1; unfold vc_disk_Disk_Remove_c1
  repeat' first | ((with_reducible apply m_ld1); (· exact qF); (· exact qM); (· kernel_rfl); (· rfl))
  refine hT.call (d_disk_drop h (hT.fx fun _ h => h) hg) (by kernel_rfl) (fun _ h => h) fun v wa w2 X2 hq hle hin hT2 hc => ?_
  exact hT2.fin fun wa hk9 => ⟨rfl, F, hT2.grew hk9 fun _ h => .inl h, hq.2.mv (hk9.mvA fun k hk' => hT2.inX k (.inl hk'))⟩
theorem d_disk_Remove {w : World} {X F : XS} {db : Nat} {m : DM} {n : ByteArray} (h : Dk w F db m) (hF : FX F X w) :
    Ct Tryz.prog 105 #[ptr db 0, .string n] w X F fun v wa w' => v = I (m.remove n).2 ∧ ∃ F', (∀ k, F' k → F k ∨ made wa w' k) ∧ Dk w' F' db (m.remove n).1 := by
  intro w0 hk
  replace h := h.mv (hF.mv hk)
  have hT := hF.ft hk
  have hF0 : FX F (old w0) w0 := hF.kp hk
  clear hF
  apply ok_disk_Disk_Remove; unfold vc_disk_Disk_Remove
  refine m_boxS rfl hT.s.has fun bd w1 X1 hbd hs1 hrd => ?_
  refine m_boxS rfl hs1.has fun bn w2 X2 hbn hs2 hrn => ?_
  have hs12 := hs1.trans hs2
  have hT2 := hT.since hs12
  have hrd2 := hrd.since hs2
  have h2 : Dk w2 F db m := h.mv (hs12.mvF fun k hk' => (hF0 k hk').1)
  have hs := Since.refl' hs2.has
  repeat' first | ((with_reducible apply m_ld1); (· exact qF); (· exact qM); (· kernel_rfl); (· rfl)) | (with_reducible apply m_mkFun)
  refine r_ct0 (d_disk_has h2 (hT2.fx fun _ h => h)) (by kernel_rfl) hs.has ?_
  rintro v wa w3 X3 rfl hle hin hs3
  have hT3 := hT2.since hs3
  have h3 : Dk w3 F db m := h2.mv (hs3.mvF hT2.inX)
  have hbd1 := hrd.lt
  have hbdX := hs3.sub _ hrd2.1
  have hbnX := hs3.sub _ hrn.1
  have hrd3 := hrd2.since hs3
  have hrn3 := hrn.since hs3
  have e8 : I (if (m.get n).isSome then 0 else 8) = I (((if (m.get n).isSome then 0 else 8 : Nat)) : Nat) := by split <;> rfl
  rw [e8]
  refine hT3.call (d_disk_write (A := fun k => k = bd ∨ k = bn) (g := fun m => m.del n) h3 (hT3.fx fun _ h => h) (fun k hk' => ?_) (by kernel_rfl) ?_) (by kernel_rfl) (fun _ h => h) fun v wa4 w4 X4 hq hle4 hin4 hT4 hc4 => ?_
  · rcases hk' with rfl | rfl
    · exact ⟨hbdX, hrd3.lt, fun hf => by have := (hF0 _ hf).2; omega⟩
    · exact ⟨hbnX, hrn3.lt, fun hf => by have := (hF0 _ hf).2; have := hs1.kp.size; omega⟩
  · intro he w5 X5 hm5 hx5 hF5 h5
    refine d_disk_Remove1 h5 hF5 ⟨hx5 _ (.inl rfl), ?_⟩ ⟨hx5 _ (.inr rfl), ?_⟩ ?_
    · rw [(hm5 bd (.inl rfl) (hrd3.lt)).2]; exact hrd3.2
    · rw [(hm5 bn (.inr rfl) (hrn3.lt)).2]; exact hrn3.2
    · rw [m.tick_get]
      cases hgs : (m.get n).isSome
      · rw [hgs] at he; cases he
      · rfl
  · obtain ⟨rfl, F', hF', hD⟩ := hq
    skip
    refine hT4.fin fun wa9 hk9 => ⟨rfl, F', hT4.grew hk9 hF', hD.mv (hk9.mvA fun k hk' => hT4.inX k (hF' k hk'))⟩
end Go.Proofs.YtpdkoaklobnegaaGreat
namespace Go.Proofs.YtpdkoaklobnegaaGreat
open Go.Eng
set_option maxRecDepth 100000
set_option maxHeartbeats 1000000
set_option linter.unusedVariables false
set_option linter.unusedSimpArgs false
attribute [local irreducible] un jn chk fld ld1 ldA st1 ixS lnS lnT bld cvI cvF ixA bsS apS rdV rdW grdW eW eV eU eC eF gE condW fin pickN nilN binS vS lp0 lp1 lp2 lp3 lp4 lp5 lp6 lp7 nx0 nx1 nx2 nx3 nx4 nx5 nx6 nx7
def xr (a b : Int) : Int := IntKind.u32.wrap (BitVec.ofInt IntKind.u32.bits a ^^^ BitVec.ofInt IntKind.u32.bits b).toNat
def xr8 (a b : Int) : Int := IntKind.u8.wrap (BitVec.ofInt IntKind.u8.bits a ^^^ BitVec.ofInt IntKind.u8.bits b).toNat
def an (a b : Int) : Int := IntKind.u32.wrap (BitVec.ofInt IntKind.u32.bits a &&& BitVec.ofInt IntKind.u32.bits b).toNat
def sr (a n : Int) : Int := a.fdiv (2 ^ min n.toNat IntKind.u32.bits)
def ng (a : Int) : Int := IntKind.u32.wrap (-a)
def nt (a : Int) : Int := xr IntKind.u32.max a
def stp (c : Int) : Int := xr (sr c 1) (an 2197175160 (ng (an c 1)))
def it : Nat → Int → Int
  | 0, c => c
  | n + 1, c => stp (it n c)
def tab (i : Int) : Int := it 8 (IntKind.u32.wrap i)
def crcS (l : List Nat) (c : Int) : Int := l.foldl (fun (c : Int) (x : Nat) => it 8 (xr c (IntKind.u32.wrap x))) c
def crcT (l : List Nat) (c : Int) : Int := l.foldl (fun (c : Int) (x : Nat) => xr (sr c 8) (tab (xr8 (IntKind.u8.wrap c) x))) c
def crcZ (l : List Nat) : Int := nt (if l.length < 64 then crcS l 4294967295 else crcT l 4294967295)
def crc (l : List Nat) : Nat := (crcZ l).toNat
def le4 (n : Nat) : List Nat := [n % 256, n / 256 % 256, n / 65536 % 256, n / 16777216 % 256]
def frameB (p : List Nat) : List Nat := le4 p.length ++ le4 (crc (le4 p.length)) ++ p ++ le4 (crc p)
theorem wrap32 (n : Int) : IntKind.u32.wrap n = n % 4294967296 := by simp [IntKind.wrap, IntKind.bits, IntKind.signed]
theorem xr_range (a b : Int) : 0 ≤ xr a b ∧ xr a b < 4294967296 := by unfold xr; rw [wrap32]; omega
theorem xr8_range (a b : Int) : 0 ≤ xr8 a b ∧ xr8 a b < 256 := by unfold xr8; rw [wrap8]; omega
theorem crcZ_range (l : List Nat) : 0 ≤ crcZ l ∧ crcZ l < 4294967296 := xr_range _ _
theorem crc_eq (l : List Nat) : ((crc l : Nat) : Int) = crcZ l := Int.toNat_of_nonneg (crcZ_range l).1
theorem le4_len (n : Nat) : (le4 n).length = 4 := rfl
theorem frameB_len (p : List Nat) : (frameB p).length = p.length + 12 := by simp only [frameB, List.length_append, le4_len]; omega
section
variable {P : Program} {R : Ending → World → Prop} {X : XS} {w : World} {m : Bool} {N : Value → Prop} {t : TypeId} {a b : Int}
theorem r_xr (h : N (.int .u32 (xr a b))) : rdV P X w (binOp .xor t (.int .u32 a) (.int .u32 b)) N := rdV_xor h
theorem r_xr8 (h : N (.int .u8 (xr8 a b))) : rdV P X w (binOp .xor t (.int .u8 a) (.int .u8 b)) N := rdV_xor h
theorem r_an (h : N (.int .u32 (an a b))) : rdV P X w (binOp .and t (.int .u32 a) (.int .u32 b)) N := rdV_and h
theorem r_sr (hb : ¬ b < 0) (h : N (.int .u32 (sr a b))) : rdV P X w (binOp .shr t (.int .u32 a) (.int .u64 b)) N := rdV_shr hb h
theorem r_ng (h : N (.int .u32 (ng a))) : rdV P X w (Op.unary .neg (.int .u32 a)) N := rdV_pure (fun wa => by simp [Op.unary, ng, Op.intArith]) h
theorem r_nt (h : N (.int .u32 (nt a))) : rdV P X w (Op.unary .xor (.int .u32 a)) N := rdV_pure (fun wa => by simp [Op.unary, nt, xr, Op.intBits, IntKind.signed]) h
theorem m_ixArr {k : IntKind} {g o i : Nat} {z : Int} (hz : z = i) (hi : i < P.arrayLen t) (ht : P.underlying t = some (.array (P.arrayLen t) (P.elem t))) (hs : (P.info? (P.elem t)).map (·.size) = some 1) (h : N (ptr g (o + i))) :
    rdV P X w (Instr.indexAt t (ptr g o) (.int k z)) N := by
  subst hz
  refine rdV_pure (v := ptr g (o + i)) (fun wa => ?_) h
  show (Instr.indexAt t (.pointer (some ⟨g, o, none⟩)) _).run P wa = _
  rw [run_indexAt_array (h := ht), if_pos (by omega)]
  cases hq : P.info? (P.elem t) with
  | none => simp [hq] at hs
  | some inf =>
    have : inf.size = 1 := by simpa [hq] using hs
    simp [sizeOf, typeInfo, hq, this, addr_add]
end
abbrev U4 (x : Int) : Value := .int .u32 x
theorem d_frame_table {w : World} {X : XS} : Ct Tryz.prog 287 #[] w X nX fun v wa w' => v = .agg ((List.range 256).map fun i : Nat => U4 (tab (i : Int))).toArray := by
  intro w0 hk
  apply ok_frame_table; unfold vc_frame_table
  have hs := Since.init w0
  have hT : Ft w0 nX w0 (old w0) nX := Ft.init fun _ h => h.elim
  refine m_alloc (l := List.replicate 256 (U4 0)) hs.has (by kernel_rfl) fun b w1 X1 hb hs1 hr => ?_
  have hT1 : Ft w0 nX w1 X1 (fun k => k = b) := (hT.since hs1).more fun k hk' => by subst hk'; exact .inr ⟨hr.1, hb⟩
  refine lp3_of (fun n a _ _ w X => ∃ i : Nat, a = I (i : Nat) ∧ n = 256 - i ∧ i ≤ 256 ∧ Ft w0 nX w X (fun k => k = b) ∧ RowIs w X b (((List.range i).map fun i : Nat => U4 (tab (i : Int))) ++ List.replicate (256 - i) (U4 0)) 353) 256 ⟨0, rfl, rfl, Nat.zero_le _, hT1, by simpa using hr⟩ ?_
  rintro n a _ _ w X ⟨i, rfl, rfl, hi, hT2, hr2⟩
  repeat' first | with_reducible (first | apply condW_T | apply condW_F) | (with_reducible apply r_lss <;> intro _) | ((with_reducible apply r_cvI); (· kernel_rfl); (· kernel_rfl))
  · refine lp2_of (fun n a c w' X' => ∃ j : Nat, a = I (j : Nat) ∧ c = U4 (it j (IntKind.u32.wrap i)) ∧ n = 8 - j ∧ j ≤ 8 ∧ w' = w ∧ X' = X) 8 ⟨0, rfl, rfl, rfl, Nat.zero_le _, rfl, rfl⟩ ?_
    rintro n a c _ _ ⟨j, rfl, rfl, rfl, hj, rfl, rfl⟩
    repeat' first | with_reducible (first | apply condW_T | apply condW_F) | (with_reducible apply r_lss <;> intro _) | ((with_reducible apply r_add); (· omega); (· omega)) | ((with_reducible apply r_sr); (· omega)) | (with_reducible apply r_an) | (with_reducible apply r_ng) | (with_reducible apply r_xr)
    · exact nx2_of (8 - (j + 1)) (by omega) ⟨j + 1, by simp, rfl, rfl, by omega, rfl, rfl⟩
    · have hj8 : j = 8 := by omega
      subst hj8
      have hal : Tryz.prog.arrayLen 353 = 256 := by kernel_rfl
      refine m_ixArr rfl (by rw [hal]; omega) (by kernel_rfl) (by kernel_rfl) ?_
      rw [Nat.zero_add]
      refine m_st1 hr2 (by kernel_rfl) (by simp; omega) rfl rfl hT2.s.has fun w3 X3 c hr3 => ?_
      have hT3 : Ft w0 nX w3 X3 (fun k => k = b) := hT2.chg c (fun k hk' => hk') fun k hk' => .inl hk'
      repeat' first | ((with_reducible apply r_add); (· omega); (· omega))
      refine nx3_of (256 - (i + 1)) (by omega) ⟨i + 1, by simp, rfl, by omega, hT3, ?_⟩
      have e : setL (((List.range i).map fun i : Nat => U4 (tab (i : Int))) ++ List.replicate (256 - i) (U4 0)) i (Value.cells (U4 (it 8 (IntKind.u32.wrap (i : Int))))).toList = ((List.range (i + 1)).map fun i : Nat => U4 (tab (i : Int))) ++ List.replicate (256 - (i + 1)) (U4 0) := by
        have hl : ((List.range i).map fun i : Nat => U4 (tab (i : Int))).length = i := by simp
        rw [show 256 - i = (256 - (i + 1)) + 1 by omega, List.replicate_succ]
        unfold setL
        rw [List.take_left' hl, List.range_succ, List.map_append, List.map_singleton, List.append_assoc, List.append_assoc]
        have hd : ∀ r : List Value, (((List.range i).map fun i : Nat => U4 (tab (i : Int))) ++ U4 0 :: r).drop (i + 1) = r := fun r => by
          rw [← List.drop_drop, List.drop_left' hl]; rfl
        have h1 : (Value.cells (U4 (it 8 (IntKind.u32.wrap (i : Int))))).toList = [U4 (tab (i : Int))] := rfl
        rw [h1, List.length_singleton, hd]
      rw [← e]; exact hr3
  · have hi6 : i = 256 := by omega
    subst hi6
    have hr3 : RowIs w X b ((List.range 256).map fun i : Nat => U4 (tab (i : Int))) 353 := by simpa using hr2
    have hl : ((List.range 256).map fun i : Nat => U4 (tab (i : Int))).length = 256 := by simp
    generalize hL : ((List.range 256).map fun i : Nat => U4 (tab (i : Int))) = L at hr3 hl ⊢
    have hone : L.all one = true := by rw [← hL]; simp; intros; rfl
    refine m_ldA hr3.cells (Mv.refl _ _) (by kernel_rfl) hl ?_
    refine un_box ?_
    refine chk_iff.2 ⟨by simpa [Value.cells] using hl, chk_iff.2 ⟨by simpa [Value.cells] using hone, ?_⟩⟩
    refine un_sub ?_
    refine chk_iff.2 ⟨rfl, ?_⟩
    rw [List.drop_zero, List.take_of_length_le (by omega)]
    exact hT2.fin fun wa hk9 => rfl
theorem take_fold {β : Type} (f : β → Nat → β) (l : List Nat) {i x : Nat} (c : β) (h : l[i]? = some x) : (l.take (i + 1)).foldl f c = f ((l.take i).foldl f c) x := by
  rw [List.take_add_one, h]; simp
theorem d_frame_Sum {w : World} {X : XS} {vb : Value} {l : List Nat} (h : Sl w X 1 vb (l.map U1)) : Ct Tryz.prog 203 #[vb] w X nX fun v wa w' => v = U4 (crcZ l) := by
  intro w0 hk
  replace h := h.mv hk.mvo
  have hlen := h.len'
  apply ok_frame_Sum; unfold vc_frame_Sum
  have hs := Since.init w0
  repeat' first | with_reducible (first | apply condW_T | apply condW_F) | (with_reducible apply r_lss <;> intro _) | ((with_reducible apply m_lnS); (· exact qO); (· kernel_rfl))
  · have h64 : l.length < 64 := by omega
    refine lp3_of (fun n a _ c w X => ∃ i : Nat, a = I (i : Nat) ∧ c = U4 (crcS (l.take i) 4294967295) ∧ n = l.length - i ∧ i ≤ l.length ∧ Since (old w0) w0 X w) l.length ⟨0, rfl, rfl, rfl, Nat.zero_le _, hs⟩ ?_
    clear hs
    rintro n a _ _ w X ⟨i, rfl, rfl, rfl, hi, hs⟩
    rcases at_or l i with ⟨hlt, x, hx, hd⟩ | ⟨hge, hd⟩
    · repeat' first | ((with_reducible refine r_lssT ?_ ?_); (· omega)) | with_reducible apply condW_T | ((with_reducible apply m_ld1); (· exact qF); (· exact qM); (· kernel_rfl); (· rfl)) | ((with_reducible apply m_ixS); (· exact qO); (try (case hz => rfl)); (case hr => exact qR); (try (case hz => omega)); (case ht => kernel_rfl); (case hs => kernel_rfl); intro _ _ _) | ((with_reducible apply r_cvI); (· kernel_rfl); (· kernel_rfl)) | (with_reducible apply r_xr)
      refine lp2_of (fun n a c w' X' => ∃ j : Nat, a = I (j : Nat) ∧ c = U4 (it j (xr (crcS (l.take i) 4294967295) (IntKind.u32.wrap x))) ∧ n = 8 - j ∧ j ≤ 8 ∧ w' = w ∧ X' = X) 8 ⟨0, rfl, rfl, rfl, Nat.zero_le _, rfl, rfl⟩ ?_
      rintro n a c _ _ ⟨j, rfl, rfl, rfl, hj, rfl, rfl⟩
      repeat' first | with_reducible (first | apply condW_T | apply condW_F) | (with_reducible apply r_lss <;> intro _) | ((with_reducible apply r_add); (· omega); (· omega)) | ((with_reducible apply r_sr); (· omega)) | (with_reducible apply r_an) | (with_reducible apply r_ng) | (with_reducible apply r_xr)
      · exact nx2_of (8 - (j + 1)) (by omega) ⟨j + 1, by simp, rfl, rfl, by omega, rfl, rfl⟩
      · have hj8 : j = 8 := by omega
        subst hj8
        refine nx3_of (l.length - (i + 1)) (by omega) ⟨i + 1, by simp, ?_, rfl, by omega, hs⟩
        unfold crcS
        rw [take_fold _ l _ hx]
    · have hil : i = l.length := by omega
      subst hil
      repeat' first | ((with_reducible refine r_lssF ?_ ?_); (· omega)) | with_reducible apply condW_F | (with_reducible apply r_nt) | ((first | (with_reducible refine fin_ret0 hs ?_) | (with_reducible refine fin_ret0 (hs0.trans hs) ?_)); intro wa hk; (rw [crcZ, if_pos h64, List.take_length]))
  · have h64 : ¬ l.length < 64 := by omega
    refine r_ct0 d_frame_table (by kernel_rfl) hs.has ?_
    rintro _ wa w1 X1 rfl hle hin hs1
    replace hs := hs.trans hs1
    refine m_alloc (l := List.replicate 256 (U4 0)) hs.has (by kernel_rfl) fun b w2 X2 hb hs2 hr => ?_
    have hs12 := hs.trans hs2
    have hT : Ft w0 nX w2 X2 (fun k => k = b) := ((Ft.init (w := w0) (F0 := nX) fun _ h => h.elim).since hs12).more fun k hk' => by subst hk'; exact .inr ⟨hr.1, by have := hs.kp.size; omega⟩
    have hl : ((List.range 256).map fun i : Nat => U4 (tab (i : Int))).length = 256 := by simp
    have hget : ∀ i : Nat, i < 256 → ((List.range 256).map fun i : Nat => U4 (tab (i : Int)))[i]? = some (U4 (tab (i : Int))) := fun i hi => by simp [hi]
    have hone : ((List.range 256).map fun i : Nat => U4 (tab (i : Int))).all one = true := by simp; intros; rfl
    generalize ((List.range 256).map fun i : Nat => U4 (tab (i : Int))) = L at hl hget hone ⊢
    refine m_st1 hr (by kernel_rfl) (by simp) (by simpa [Value.cells] using hl) (by simpa [Value.cells] using hone) hT.s.has fun w3 X3 c hr3 => ?_
    have hT3 : Ft w0 nX w3 X3 (fun k => k = b) := hT.chg c (fun k hk' => hk') fun k hk' => .inl hk'
    have e : setL (List.replicate 256 (U4 0)) 0 (Value.cells (.agg L.toArray)).toList = L := by
      unfold setL
      simp [Value.cells, hl]
    rw [e] at hr3
    have hs3 : Since (old w0) w0 X3 w3 := ⟨⟨hT3.s.kp.os, hT3.s.kp.tape, hT3.s.kp.output, hT3.s.kp.size, fun k hk' => hT3.s.kp.block k ⟨hk', fun h => h.elim⟩⟩, fun k hk' => hT3.s.sub k ⟨hk', fun h => h.elim⟩, hT3.s.has⟩
    clear hs hs12
    have hs := hs3
    repeat' first | ((with_reducible apply m_lnS); (· exact qO); (· kernel_rfl))
    refine lp2_of (fun n a c w X => ∃ i : Nat, a = I (i : Nat) ∧ c = U4 (crcT (l.take i) 4294967295) ∧ n = l.length - i ∧ i ≤ l.length ∧ w = w3 ∧ X = X3) l.length ⟨0, rfl, rfl, rfl, Nat.zero_le _, rfl, rfl⟩ ?_
    rintro n a _ _ _ ⟨i, rfl, rfl, rfl, hi, rfl, rfl⟩
    rcases at_or l i with ⟨hlt, x, hx, hd⟩ | ⟨hge, hd⟩
    · repeat' first | ((with_reducible refine r_lssT ?_ ?_); (· omega)) | with_reducible apply condW_T | ((with_reducible apply m_ld1); (· exact qF); (· exact qM); (· kernel_rfl); (· rfl)) | ((with_reducible apply m_ixS); (· exact qO); (try (case hz => rfl)); (case hr => exact qR); (try (case hz => omega)); (case ht => kernel_rfl); (case hs => kernel_rfl); intro _ _ _) | ((with_reducible apply r_cvI); (· kernel_rfl); (· kernel_rfl)) | ((with_reducible apply r_sr); (· omega)) | (with_reducible apply r_xr8)
      have hrg := xr8_range (IntKind.u8.wrap (crcT (l.take i) 4294967295)) x
      obtain ⟨q, hq⟩ : ∃ q : Nat, xr8 (IntKind.u8.wrap (crcT (l.take i) 4294967295)) x = (q : Int) := ⟨_, (Int.toNat_of_nonneg hrg.1).symm⟩
      have hal : Tryz.prog.arrayLen 353 = 256 := by kernel_rfl
      refine m_ixArr hq (by rw [hal]; omega) (by kernel_rfl) (by kernel_rfl) ?_
      rw [Nat.zero_add]
      have hcq := hr3.cells.take1 (hget q (by omega))
      rw [Nat.zero_add] at hcq
      repeat' first | ((with_reducible apply m_ld1); (· exact qF); (· exact qM); (· kernel_rfl); (· rfl)) | ((with_reducible apply r_add); (· omega); (· omega)) | (with_reducible apply r_xr)
      refine nx2_of (l.length - (i + 1)) (by omega) ⟨i + 1, by simp, ?_, rfl, by omega, rfl, rfl⟩
      unfold crcT
      rw [take_fold _ l _ hx, ← hq]
      rfl
    · have hil : i = l.length := by omega
      subst hil
      repeat' first | ((with_reducible refine r_lssF ?_ ?_); (· omega)) | with_reducible apply condW_F | (with_reducible apply r_nt) | ((first | (with_reducible refine fin_ret0 hs ?_) | (with_reducible refine fin_ret0 (hs0.trans hs) ?_)); intro wa hk; (rw [crcZ, if_neg h64, List.take_length]))
theorem r_srN {P : Program} {X : XS} {w : World} {N : Value → Prop} {t : TypeId} {u : Nat} (k : Nat) (hk : k ≤ 32) (h : N (.int .u32 ((u / 2 ^ k : Nat) : Int))) : rdV P X w (binOp .shr t (.int .u32 (u : Int)) (.int .u64 (k : Int))) N := by
  refine rdV_shr (by omega) ?_
  have e : ((u : Int)).fdiv (2 ^ min ((k : Int)).toNat IntKind.u32.bits) = ((u / 2 ^ k : Nat) : Int) := by
    rw [show min ((k : Int)).toNat IntKind.u32.bits = k by simp [IntKind.bits]; omega]
    rw [Int.fdiv_eq_ediv_of_nonneg _ (by exact_mod_cast Nat.zero_le _)]
    norm_cast
  rw [e]; exact h
theorem fill4 (a b c d : Int) : Instr.fill (fun i => some (i * 1, 1)) ((Array.range (4 * 1)).map ((Value.int .u8 0).cells[· % (Value.int .u8 0).cells.size]!)) [(0, .int .u8 a), (1, .int .u8 b), (2, .int .u8 c), (3, .int .u8 d)] = some #[.int .u8 a, .int .u8 b, .int .u8 c, .int .u8 d] := by kernel_rfl
theorem d_frame_put {w : World} {X F : XS} {v : Value} {bs : List Nat} {n : Nat} (h : Ow w F 5 1 v (bs.map U1)) (hF : FX F X w) (hl : bs.length ≤ 2 ^ 40) :
    Ct Tryz.prog 251 #[v, U4 n] w X F fun r wa w' => ∃ F', (∀ k, F' k → F k ∨ made wa w' k) ∧ Ow w' F' 5 1 r ((bs ++ le4 n).map U1) := by
  intro w0 hk
  replace h := h.mv (hF.mv hk)
  have hT := hF.ft hk
  apply ok_frame_put; unfold vc_frame_put
  have hs := Since.init w0
  refine r_toU8 (by kernel_rfl) (by kernel_rfl) ?_
  refine r_srN 8 (by omega) ?_
  refine r_toU8 (by kernel_rfl) (by kernel_rfl) ?_
  refine r_srN 16 (by omega) ?_
  refine r_toU8 (by kernel_rfl) (by kernel_rfl) ?_
  refine r_srN 24 (by omega) ?_
  refine r_toU8 (by kernel_rfl) (by kernel_rfl) ?_
  refine m_bsN (bytes := 1) (rows := (le4 n).map U1) #[.int .u8 (n % 256 : Nat), .int .u8 (n / 256 % 256 : Nat), .int .u8 (n / 65536 % 256 : Nat), .int .u8 (n / 16777216 % 256 : Nat)] (.int .u8 0) hT.s.has (by kernel_rfl) (by kernel_rfl) (by decide) (by decide) (fill4 _ _ _ _) (by simp) rfl rfl fun s w1 X1 hs1 ho => ?_
  have hT1 := hT.since hs1
  refine eV_apO (by kernel_rfl) hs1.has ((h.mv (hs1.mvF hT.inX)).mono hT1.inX) ho.sl (by intro r hr u hu; obtain ⟨x, _, rfl⟩ := List.mem_map.1 hr; simp only [U1, List.mem_singleton] at hu; subst hu; rfl) (by simp [le4]; omega) (by simp [le4]; omega) fun v' w2 X2 c ho2 hat => ?_
  have hF2 : ∀ g, v'.ownBlock = some g → F g ∨ (X2 g ∧ w1.heap.size ≤ g) := fun g hg => by
    rcases hat with e | ⟨g', e, hge⟩
    · exact .inl (h.inX (e ▸ hg)).1
    · rw [hg] at e
      have : g = g' := Option.some.inj e
      subst this
      exact .inr ⟨(ho2.inX hg).1, hge⟩
  have hT2 : Ft w0 F w2 X2 (fun k => F k ∨ (X2 k ∧ w1.heap.size ≤ k)) := hT1.chg c (fun k hk' => (h.inX hk').1) fun k hk' => hk'
  refine hT2.fin fun wa hk9 => ⟨_, hT2.grew hk9 fun _ h => h, ?_⟩
  rw [List.map_append]
  exact ho2.tight.mv fun k hk' hl' => ⟨hF2 k hk', hk9.block k (ho2.inX hk').1⟩
theorem Ft.putN {w0 w' wa : World} {X' F F' : XS} {e k : Nat} {v : Value} {rows : List (List Value)} (h : Ft w0 nX w' X' (fun k => F k ∨ made wa w' k)) (ho : Ow w' F' e k v rows) (hF' : ∀ k, F' k → F k ∨ made wa w' k) : Ow w' (New w0 X') e k v rows :=
  ho.mono fun k hk => ⟨h.inX k (hF' k hk), (h.v k (hF' k hk)).elim (fun h => h.elim) id⟩
theorem d_frame_Frame {w : World} {X : XS} {vp : Value} {p : List Nat} (h : Sl w X 1 vp (p.map U1)) : Ct Tryz.prog 169 #[vp] w X nX fun v wa w' =>
    if 262144 < p.length then v = .tuple #[.slice none 0 0, I 2] else ∃ vb, v = .tuple #[vb, I 0] ∧ Ow w' (made wa w') 5 1 vb ((frameB p).map U1) := by
  intro w0 hk
  replace h := h.mv hk.mvo
  have hlen := h.len'
  apply ok_frame_Frame; unfold vc_frame_Frame
  have hs := Since.init w0
  repeat' first | with_reducible (first | apply condW_T | apply condW_F) | (with_reducible apply r_gtr <;> intro _) | ((with_reducible apply m_lnS); (· exact qO); (· kernel_rfl)) | ((with_reducible apply r_add); (· omega); (· omega)) | ((first | (with_reducible refine fin_ret0 hs ?_) | (with_reducible refine fin_ret0 (hs0.trans hs) ?_)); intro wa hk; (dsimp only; rw [if_pos (by omega)]))
  have hn : ¬ 262144 < p.length := by omega
  refine m_makeSl0 (e := 5) (k := 1) (c := p.length + 12) (bytes := 1) hs.has (by kernel_rfl) (by simp) (by omega) (by omega) (by omega) fun v0 w1 X1 hs1 ho => ?_
  have hT : Ft w0 nX w1 X1 (New w0 X1) := ((Ft.init (w := w0) (F0 := nX) fun _ h => h.elim).since hs1).new0
  have hO : Ow w1 (New w0 X1) 5 1 v0 (([] : List Nat).map U1) := (ho.ow.tight).mono fun k hk' => ⟨(ho.ow.inX hk').1, (ho.ge hk').1⟩
  have hpl : IntKind.u32.wrap (p.length : Int) = (p.length : Nat) := by rw [wrap32]; omega
  repeat' first | ((with_reducible apply m_lnS); (· exact qO); (· kernel_rfl)) | ((with_reducible apply r_cvI); (· kernel_rfl); (· kernel_rfl))
  rw [hpl]
  refine hT.call (d_frame_put hO (hT.fx fun _ h => h) (by simp)) (by kernel_rfl) (fun _ h => h) fun v1 wa2 w2 X2 hq hle hin hT2 hc => ?_
  obtain ⟨F2, hF2, hO2⟩ := hq
  have hO2 := Ft.putN hT2 hO2 hF2
  replace hT2 := hT2.new0
  rw [List.nil_append] at hO2
  refine r_ct0 (d_frame_Sum (hO2.sl.mono hT2.inX)) (by kernel_rfl) hT2.s.has ?_
  rintro _ wa3 w3 X3 rfl hle3 hin3 hs3
  have hO3 : Ow w3 (New w0 X3) 5 1 v1 ((le4 p.length).map U1) := (hO2.mv (hs3.mvF hT2.inX)).mono fun k hk' => ⟨hs3.sub k hk'.1, hk'.2⟩
  replace hT2 := (hT2.since hs3).new0
  rw [← crc_eq]
  refine hT2.call (d_frame_put hO3 (hT2.fx fun _ h => h) (by simp [le4])) (by kernel_rfl) (fun _ h => h) fun v4 wa4 w4 X4 hq hle hin hT4 hc => ?_
  obtain ⟨F4, hF4, hO4⟩ := hq
  have hO4 := Ft.putN hT4 hO4 hF4
  replace hT4 := hT4.new0
  have hp4 : Sl w4 X4 1 vp (p.map U1) := h.mv hT4.since0.mv
  refine m_apN hT4 hO4 (by kernel_rfl) hp4 (by intro r hr u hu; obtain ⟨x, _, rfl⟩ := List.mem_map.1 hr; simp only [U1, List.mem_singleton] at hu; subst hu; rfl) (by simp [le4]; omega) (by simp [le4]; omega) fun v5 w5 X5 hT5 hO5 hc5 _ => ?_
  refine r_ct0 (d_frame_Sum (h.mv hT5.since0.mv)) (by kernel_rfl) hT5.s.has ?_
  rintro _ wa6 w6 X6 rfl hle6 hin6 hs6
  have hO6 : Ow w6 (New w0 X6) 5 1 v5 ((le4 p.length ++ le4 (crc (le4 p.length)) ++ p).map U1) := by
    rw [List.map_append]
    exact (hO5.mv (hs6.mvF hT5.inX)).mono fun k hk' => ⟨hs6.sub k hk'.1, hk'.2⟩
  replace hT5 := (hT5.since hs6).new0
  rw [← crc_eq]
  refine hT5.call (d_frame_put hO6 (hT5.fx fun _ h => h) (by simp [le4]; omega)) (by kernel_rfl) (fun _ h => h) fun v7 wa7 w7 X7 hq hle hin hT7 hc => ?_
  obtain ⟨F7, hF7, hO7⟩ := hq
  have hO7 := Ft.putN hT7 hO7 hF7
  have ov := hO7.one
  skip
  refine hT7.since0 |> fun hs9 => fin_ret0 hs9 fun wa hk9 => ?_
  dsimp only
  rw [if_neg hn]
  refine ⟨v7, rfl, ?_⟩
  exact hO7.mv fun k hk' hl => ⟨⟨hk'.2, Nat.lt_of_lt_of_le hl hk9.size⟩, hk9.block k hk'.1⟩
end Go.Proofs.YtpdkoaklobnegaaGreat
namespace Go.Proofs.YtpdkoaklobnegaaGreat
open Go.Eng
set_option maxRecDepth 100000
set_option maxHeartbeats 1000000
set_option linter.unusedVariables false
set_option linter.unusedSimpArgs false
attribute [local irreducible] un jn chk fld ld1 ldA st1 ixS lnS lnT bld cvI cvF ixA bsS apS rdV rdW grdW eW eV eU eC eF gE condW fin pickN nilN binS vS lp0 lp1 lp2 lp3 lp4 lp5 lp6 lp7 nx0 nx1 nx2 nx3 nx4 nx5 nx6 nx7
def digN : Nat → Nat → List Nat
  | 0, _ => []
  | k + 1, n => digN k (n / 10) ++ [48 + n % 10]
theorem digN_len : ∀ k n, (digN k n).length = k
  | 0, _ => rfl
  | k + 1, n => by rw [digN, List.length_append, digN_len]; rfl
def fileN (dir : ByteArray) (n : Nat) : ByteArray := dir ++ ⟨#[46]⟩ ++ strB (digN 8 n)
theorem fileN_size (dir : ByteArray) (n : Nat) : (fileN dir n).size = dir.size + 9 := by
  unfold fileN
  rw [ByteArray.size_append, ByteArray.size_append, strB_size, digN_len]
  rfl
section
variable {P : Program} {X : XS} {w : World} {N : Value → Prop} {t : TypeId}
theorem r_remN {a b : Nat} (hb : b ≠ 0) (h : N (I ((a % b : Nat) : Int))) : rdV P X w (binOp .rem t (I (a : Int)) (I (b : Int))) N := by
  refine rdV_pure (fun wa => ?_) h
  simp [binOp, Op.intDiv, hb]
  exact (Int.ofNat_tmod a b).symm
theorem r_quoN {a b : Nat} (hb : b ≠ 0) (ha : a < 2 ^ 63) (h : N (I ((a / b : Nat) : Int))) : rdV P X w (binOp .quo t (I (a : Int)) (I (b : Int))) N := by
  refine rdV_pure (fun wa => ?_) h
  have h1 : (a : Int).tdiv b = ((a / b : Nat) : Int) := (Int.ofNat_tdiv a b).symm
  have h2 : a / b ≤ a := Nat.div_le_self a b
  have h3 : IntKind.i64.wrap ((a / b : Nat) : Int) = ((a / b : Nat) : Int) := by
    generalize a / b = q at h2
    simp [IntKind.wrap, IntKind.bits, IntKind.signed]
    omega
  have hb' : ¬ (b : Int) = 0 := by omega
  simp only [binOp, Op.intDiv, hb', if_false, h1, h3]
  simp
end
theorem fill8 (a : Int) : Instr.fill (fun i => some (i * 1, 1)) ((Array.range (8 * 1)).map ((Value.int .u8 0).cells[· % (Value.int .u8 0).cells.size]!)) [(0, .int .u8 a), (1, .int .u8 a), (2, .int .u8 a), (3, .int .u8 a), (4, .int .u8 a), (5, .int .u8 a), (6, .int .u8 a), (7, .int .u8 a)] = some #[.int .u8 a, .int .u8 a, .int .u8 a, .int .u8 a, .int .u8 a, .int .u8 a, .int .u8 a, .int .u8 a] := by kernel_rfl
abbrev U8 (x : Nat) : Value := .int .u8 x
theorem d_wal_file {w : World} {X : XS} {dir : ByteArray} {n : Nat} (hd : dir.size ≤ 2 ^ 40) (hn : n < 2 ^ 63) : Ct Tryz.prog 106 #[.string dir, I n] w X nX fun v wa w' => v = .string (fileN dir n) := by
  intro w0 hk
  apply ok_wal_file; unfold vc_wal_file
  have hs := Since.init w0
  have hT : Ft w0 nX w0 (old w0) nX := Ft.init fun _ h => h.elim
  refine m_bsN (e := 5) (k := 1) (bytes := 1) (rows := (List.replicate 8 48).map U1) #[.int .u8 48, .int .u8 48, .int .u8 48, .int .u8 48, .int .u8 48, .int .u8 48, .int .u8 48, .int .u8 48] (.int .u8 0) hT.s.has (by kernel_rfl) (by kernel_rfl) (by decide) (by decide) (fill8 48) (by simp) rfl rfl fun s w1 X1 hs1 ho => ?_
  rcases ho.row with ⟨_, he⟩ | ⟨g, cap, cs, rfl, hlo, hrow, hnc, hcm, hcl, htk⟩
  · cases he
  have h8 : cs.take 8 = (List.replicate 8 48).map U8 := htk
  have hl8 : 8 ≤ cs.length := by have : ((List.replicate 8 48).map U1).length ≤ cap := hnc; simp at this; omega
  refine m_convC hrow (by kernel_rfl) (by kernel_rfl) hs1.has fun w2 X2 hc hF => ?_
  have hT1 : Ft w0 nX w1 X1 (fun k => k = g) := (hT.since hs1).more fun k hk' => by subst hk'; exact .inr ⟨hrow.1, hlo⟩
  have hT2 : Ft w0 nX w2 X2 (fun k => k = g) := hT1.chg hc (fun k hk' => hk') fun k hk' => .inl hk'
  refine lp2_of (fun n' a b w X => ∃ (k m : Nat) (tail : List Nat) (cs : List Value), a = I ((k : Int) - 1) ∧ b = I (m : Int) ∧ n' = k ∧ k ≤ 8 ∧ m < 2 ^ 63 ∧ digN 8 n = digN k m ++ tail ∧ RowF w X g cs 5 ∧ cs.take 8 = (List.replicate k 48 ++ tail).map U8 ∧ 8 ≤ cs.length ∧ Ft w0 nX w X (fun k => k = g)) 8 ⟨8, n, [], cs, rfl, rfl, rfl, Nat.le_refl _, hn, by simp, hF, by simpa using h8, hl8, hT2⟩ ?_
  clear h8 hl8 hF hT2 hc
  rintro k a b w X ⟨_, m, tail, cs, rfl, rfl, rfl, hk8, hm, hdg, hF, htake, hl8, hT2⟩
  have hlt : (digN k m).length + tail.length = 8 := by have := congrArg List.length hdg; rw [digN_len, List.length_append] at this; exact this.symm
  rw [digN_len] at hlt
  cases k with
  | succ k =>
    have hck : cs[k]? = some (U8 48) := by
      have h1 : (cs.take 8)[k]? = cs[k]? := by rw [List.getElem?_take, if_pos (by omega)]
      rw [← h1, htake, List.map_append, List.getElem?_append_left (by simp)]
      simp
    have hcc := hF.cells.take1 hck
    rw [Nat.zero_add] at hcc
    have hz : ((k + 1 : Nat) : Int) - 1 = (k : Nat) := by omega
    have h49 : IntKind.u8.wrap (((48 : Nat) : Int) + IntKind.u8.wrap ((m % 10 : Nat) : Int)) = ((48 + m % 10 : Nat) : Int) := by rw [wrap8, wrap8]; omega
    rw [hz]
    repeat' first | ((with_reducible refine r_geqT ?_ ?_); (· omega)) | with_reducible apply condW_T
    refine m_ixO rfl (by simp; omega) (by kernel_rfl) (by kernel_rfl) ?_
    rw [Nat.mul_one]
    refine m_ld1 hcc (Mv.refl _ _) (by kernel_rfl) rfl ?_
    refine r_remN (a := m) (b := 10) (by omega) ?_
    refine r_cvI (by kernel_rfl) (by kernel_rfl) ?_
    refine rdV_add ?_
    rw [h49]
    refine m_ixO rfl (by simp; omega) (by kernel_rfl) (by kernel_rfl) ?_
    rw [Nat.mul_one]
    refine m_stF hF (by kernel_rfl) (by omega) rfl hT2.s.has fun w3 X3 c hF3 => ?_
    have hT3 : Ft w0 nX w3 X3 (fun k => k = g) := hT2.chg c (fun k hk' => hk') fun k hk' => .inl hk'
    refine r_quoN (a := m) (b := 10) (by omega) hm ?_
    repeat' first | ((with_reducible apply r_sub); (· omega); (· omega))
    refine nx2_of k (by omega) ⟨k, m / 10, (48 + m % 10) :: tail, _, rfl, rfl, rfl, by omega, by omega, ?_, hF3, ?_, by rw [List.length_set]; exact hl8, hT3⟩
    · rw [hdg, digN, List.append_assoc]; rfl
    · rw [List.take_set, htake]
      have e : (List.replicate (k + 1) 48 ++ tail) = List.replicate k 48 ++ 48 :: tail := by rw [List.replicate_succ', List.append_assoc]; rfl
      rw [e, List.map_append, List.map_append, List.set_append_right _ _ (by simp), List.length_map, List.length_replicate, Nat.sub_self]
      rfl
  | zero =>
    have htl : tail = digN 8 n := by rw [hdg]; rfl
    have htk8 : cs.take 8 = (digN 8 n).map U8 := by rw [htake, ← htl]; rfl
    have hcc : Cells w X g 0 ((digN 8 n).map fun x : Nat => Value.int .u8 x) := by
      have h1 := hF.cells.part 0 8
      rw [List.drop_zero, htk8] at h1
      exact h1
    have h2 : Since (old w0) w0 X w := hT2.since0
    repeat' first | ((with_reducible refine r_geqF ?_ ?_); (· omega)) | with_reducible apply condW_F
    refine r_strAdd (by show dir.size + 1 ≤ _; omega) ?_
    refine m_toStr (e := 5) (by simp [digN_len]) hcc (by kernel_rfl) (by kernel_rfl) (by kernel_rfl) hT2.s.has fun w4 X4 hs4 => ?_
    replace h2 := h2.trans hs4
    refine r_strAdd (by rw [ByteArray.size_append, strB_size, digN_len]; show dir.size + 1 + 8 ≤ _; omega) ?_
    exact fin_ret0 h2 fun wa hk9 => rfl
theorem d_wal_Name {w : World} {X : XS} {dir : ByteArray} {n : Nat} (h1 : 1 ≤ dir.size) (h2 : dir.size ≤ 11) (h3 : 1 ≤ n) (h4 : n ≤ 99999999) : Ct Tryz.prog 79 #[.string dir, I n] w X nX fun v wa w' => v = .tuple #[.string (fileN dir n), I 0] := by
  intro w0 hk
  apply ok_wal_Name; unfold vc_wal_Name
  have hs := Since.init w0
  repeat' first | ((with_reducible refine r_lssF ?_ ?_); (· omega)) | ((with_reducible refine r_gtrF ?_ ?_); (· omega)) | with_reducible (first | apply condW_T | apply condW_F | apply un_selF | apply un_selTF | apply grdV_onF | apply grdW_offF | apply rdW_pickT | apply rdW_pickF) | (with_reducible apply r_seql <;> intro _) | ((with_reducible apply r_lnT); (· kernel_rfl)) | (refine r_ct0 (d_wal_file (by omega) (by omega)) (by kernel_rfl) hs.has ?_; rintro _ wa w X rfl hle hin hs1; replace hs := hs.trans hs1) | ((first | (with_reducible refine fin_ret0 hs ?_) | (with_reducible refine fin_ret0 (hs0.trans hs) ?_)); intro wa hk; rfl)
  rename_i he
  subst he
  exact absurd h1 (by decide)
end Go.Proofs.YtpdkoaklobnegaaGreat
namespace Go.Proofs.YtpdkoaklobnegaaGreat
open Go.Eng
set_option maxRecDepth 100000
set_option maxHeartbeats 1000000
set_option linter.unusedVariables false
set_option linter.unusedSimpArgs false
attribute [local irreducible] un jn chk fld ld1 ldA st1 ixS lnS lnT bld cvI cvF ixA bsS apS rdV rdW grdW eW eV eU eC eF gE condW fin pickN nilN binS vS lp0 lp1 lp2 lp3 lp4 lp5 lp6 lp7 nx0 nx1 nx2 nx3 nx4 nx5 nx6 nx7
structure SegM where
  first : Nat
  recs : List (List Nat)
  size : Nat
structure LM where
  dir : ByteArray
  room : Nat
  segs : List SegM
  safe : Int
def LM.last (L : LM) : SegM := L.segs.getLast?.getD ⟨0, [], 0⟩
def LM.next (L : LM) : Nat := L.last.first + L.last.recs.length
def LM.lastName (L : LM) : ByteArray := fileN L.dir L.last.first
structure LD where
  L : LM
  m : DM
def LD.sync (x : LD) : LD × Nat := let r := x.m.sync x.L.lastName; (⟨if r.2 = 0 then { x.L with safe := (x.L.next : Int) - 1 } else x.L, r.1⟩, r.2)
def LD.roll (x : LD) (n : Nat) : LD × Nat := let r := x.m.create (fileN x.L.dir n); (⟨if r.2 = 0 then { x.L with segs := x.L.segs ++ [⟨n, [], 0⟩] } else x.L, r.1⟩, r.2)
def LD.room (x : LD) : LD × Nat := if x.L.room ≤ x.L.last.size then (let r := x.sync; if r.2 ≠ 0 then r else r.1.roll x.L.next) else (x, 0)
def LM.add (L : LM) (p : List Nat) : LM := { L with segs := L.segs.dropLast ++ [⟨L.last.first, L.last.recs ++ [p], L.last.size + (frameB p).length⟩] }
def LD.lay (x : LD) (p : List Nat) : LD × Nat := let r := x.m.append x.L.lastName (frameB p); (⟨if r.2 = 0 then x.L.add p else x.L, r.1⟩, r.2)
def LD.append (x : LD) (p : List Nat) : LD × Nat × Nat :=
  if 262144 < p.length then (x, 0, 2) else if 99999999 < x.L.next then (x, 0, 1) else
    let r := x.room
    if r.2 ≠ 0 then (r.1, 0, r.2) else
      let q := r.1.lay p
      if q.2 ≠ 0 then (q.1, 0, q.2) else (q.1, x.L.next, 0)
def LD.trim (x : LD) (below : Nat) : Nat → LD × Nat
  | 0 => (x, 0)
  | k + 1 => match x.L.segs with
    | s :: t :: r => if t.first ≤ below then (let q := x.m.remove (fileN x.L.dir s.first); if q.2 ≠ 0 then (⟨x.L, q.1⟩, q.2) else LD.trim ⟨{ x.L with segs := t :: r }, q.1⟩ below k) else (x, 0)
    | _ => (x, 0)
structure SegL where
  b : Nat
  first : Nat
  rv : Value
  rs : List (Value × List Nat)
  size : Nat
def SegL.er (s : SegL) : SegM := ⟨s.first, s.rs.map (·.2), s.size⟩
def apartS (x y : SegL) : Prop := x.b ≠ y.b ∧ ∀ g, x.rv.ownBlock = some g → y.rv.ownBlock ≠ some g
structure LgL (w : World) (F : XS) (lb db : Nat) (sv : Value) (bl : List SegL) (L : LM) : Prop where
  segs : L.segs = bl.map SegL.er
  box : RowIs w F lb [ptr db 0, .string L.dir, I L.room, sv, I L.safe] 158
  so : Ow w F 164 1 sv (bl.map fun s => [ptr s.b 0])
  row : ∀ s ∈ bl, RowIs w F s.b [I s.first, s.rv, I s.size] 163
  rcs : ∀ s ∈ bl, Ow w F 95 1 s.rv (s.rs.map fun r => [r.1])
  byt : ∀ s ∈ bl, ∀ r ∈ s.rs, Ow w F 5 1 r.1 (r.2.map U1)
  ap : bl.Pairwise apartS
theorem LgL.mv {w w' : World} {F F' : XS} {lb db : Nat} {sv : Value} {bl : List SegL} {L : LM} (h : LgL w F lb db sv bl L) (v : Mv F w F' w') : LgL w' F' lb db sv bl L :=
  ⟨h.segs, h.box.mv v, h.so.mv v, fun s hs => (h.row s hs).mv v, fun s hs => (h.rcs s hs).mv v, fun s hs r hr => (h.byt s hs r hr).mv v, h.ap⟩
def Lg (w : World) (F : XS) (lb db : Nat) (L : LM) (m : DM) : Prop :=
  ∃ FL FD sv bl, Dj FL FD ∧ (∀ k, FL k → F k) ∧ (∀ k, FD k → F k) ∧ LgL w FL lb db sv bl L ∧ Dk w FD db m
theorem Lg.mv {w w' : World} {F : XS} {lb db : Nat} {L : LM} {m : DM} (h : Lg w F lb db L m) (v : Mv F w F w') : Lg w' F lb db L m := by
  obtain ⟨FL, FD, sv, bl, hd, h1, h2, h3, h4⟩ := h
  exact ⟨FL, FD, sv, bl, hd, h1, h2, h3.mv fun k hk hl => ⟨hk, (v k (h1 k hk) hl).2⟩, h4.mv fun k hk hl => ⟨hk, (v k (h2 k hk) hl).2⟩⟩
theorem Lg.mono {w : World} {F F' : XS} {lb db : Nat} {L : LM} {m : DM} (h : Lg w F lb db L m) (hs : ∀ k, F k → F' k) : Lg w F' lb db L m := by
  obtain ⟨FL, FD, sv, bl, hd, h1, h2, h3, h4⟩ := h
  exact ⟨FL, FD, sv, bl, hd, fun k hk => hs k (h1 k hk), fun k hk => hs k (h2 k hk), h3, h4⟩
structure LOK (L : LM) : Prop where
  ne : L.segs ≠ []
  d1 : 1 ≤ L.dir.size
  d2 : L.dir.size ≤ 11
  seg : ∀ s ∈ L.segs, s.first + s.recs.length ≤ 2 ^ 40 ∧ s.size ≤ 2 ^ 40
  room : L.room ≤ 2 ^ 40
theorem LM.last_mem {L : LM} (h : L.segs ≠ []) : L.last ∈ L.segs := by
  unfold LM.last
  rw [List.getLast?_eq_some_getLast h]
  exact List.getLast_mem h
theorem LM.last_eq {L : LM} (h : L.segs ≠ []) : L.segs = L.segs.dropLast ++ [L.last] := by
  unfold LM.last
  rw [List.getLast?_eq_some_getLast h]
  exact (List.dropLast_concat_getLast h).symm
theorem LOK.next {L : LM} (h : LOK L) : L.next ≤ 2 ^ 40 := (h.seg _ (LM.last_mem h.ne)).1
theorem LOK.first {L : LM} (h : LOK L) : L.last.first ≤ 2 ^ 40 := by have := h.next; unfold LM.next at this; omega
theorem LgL.last {w : World} {F : XS} {lb db : Nat} {sv : Value} {bl : List SegL} {L : LM} (h : LgL w F lb db sv bl L) (hL : LOK L) : ∃ bl' s, bl = bl' ++ [s] ∧ s.er = L.last ∧ L.segs.dropLast = bl'.map SegL.er := by
  have hne : bl ≠ [] := fun e => hL.ne (by rw [h.segs, e]; rfl)
  refine ⟨bl.dropLast, bl.getLast hne, (List.dropLast_concat_getLast hne).symm, ?_, ?_⟩
  · unfold LM.last
    rw [h.segs, List.getLast?_map, List.getLast?_eq_some_getLast hne]
    rfl
  · rw [h.segs, List.map_dropLast]
end Go.Proofs.YtpdkoaklobnegaaGreat
