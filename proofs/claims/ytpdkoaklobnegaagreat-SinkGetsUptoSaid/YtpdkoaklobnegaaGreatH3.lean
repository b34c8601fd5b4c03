/-
  Part 3 of the proof: what the last text leans on.
-/
import Derived.Test.YtpdkoaklobnegaaGreatProg
import Derived.KernelRfl
import Derived.Test.YtpdkoaklobnegaaGreatH2
namespace Go.Proofs.YtpdkoaklobnegaaGreat
open Go.Eng
set_option maxRecDepth 100000
noncomputable def pl_recs_StateMay : Plan := ⟨87, [(7, (Tryz.prog.cellsOf 288)), (9, (Tryz.prog.cellsOf 229)), (13, (Tryz.prog.cellsOf 53))], [49, 61, 73, 81], [0, 1, 2, 4, 5, 11, 29, 39, 42, 43, 44, 45, 52, 55, 56, 57, 58, 62, 63, 64, 65, 71, 74, 75, 76, 77, 84], [18, 19, 20, 21, 22, 24, 25, 26, 27, 28], [44, 57, 64, 76]⟩
def vc_recs_StateMay (R : Ending → World → Prop) (w0 : World) (X0 : XS) (p0_0 p0_1 : Int) (p0_2 p0_3 : Nat) (p0_4 p0_5 p0_6 p0_7 p0_8 p0_9 : Int) (p0_10 p0_11 : Value) : Prop :=
 eV Tryz.prog R X0 w0 true (Instr.box 46 (.agg #[(I p0_0), (I p0_1), (.float .f64 p0_2), (.float .f64 p0_3), (I p0_4), (I p0_5), (I p0_6), (I p0_7), (I p0_8), (I p0_9), p0_10, p0_11])) fun a b c =>
 (rdV Tryz.prog c b (fld 46 0 0 4 a) fun d =>
 rdV Tryz.prog c b (ldA 42 4 d) fun e =>
 eC Tryz.prog R c b true 245 #[e] fun g h i =>
 rdV Tryz.prog i h (Op.unary UnOp.not g) fun j =>
 grdW Tryz.prog i h j false (vS (fld 46 1 4 3 a)) fun k =>
 grdW Tryz.prog i h j false (vS (ldA 35 3 k)) fun l =>
 jn (fun (m : Value) (n : World) (o : XS) =>
 grdW Tryz.prog o n j false (vS (Op.unary UnOp.not m)) fun q =>
 rdW Tryz.prog o n (pickN j (B true) q) fun r =>
 grdW Tryz.prog o n r false (vS (fld 46 2 7 3 a)) fun s =>
 grdW Tryz.prog o n r false (vS (ldA 35 3 s)) fun t =>
 jn (fun (v : Value) (y : World) (z : XS) =>
 grdW Tryz.prog z y r false (vS (Op.unary UnOp.not v)) fun A =>
 rdW Tryz.prog z y (pickN r (B true) A) fun C =>
 (condW C
 (fin R z y (B false))
 ((rdV Tryz.prog z y (fld 46 3 10 1 a) fun D =>
 rdV Tryz.prog z y (ld1 43 D) fun E =>
 rdV Tryz.prog z y (fld 46 4 11 1 a) fun F =>
 rdV Tryz.prog z y (ld1 44 F) fun G =>
 eC Tryz.prog R z y true 246 #[E, G] fun H L M =>
 rdV Tryz.prog M L (Instr.extract H 0) fun _ =>
 rdV Tryz.prog M L (Instr.extract H 1) fun N =>
 (rdV Tryz.prog M L (binS .neq 29 (.tmp 38) (.const (I 0)) N (I 0)) fun O =>
 (condW O
 (fin R M L (B false))
 ((rdV Tryz.prog M L (Instr.makeFunc (Fn.func 247) #[] #[a]) fun Q =>
 (rdV Tryz.prog M L (fld 46 3 10 1 a) fun S =>
 rdV Tryz.prog M L (ld1 43 S) fun T =>
 rdV Tryz.prog M L (lnS 43 3 T) fun U =>
 (lp1 M L (I 0) 44 fun V Y Z a0 b0 =>
 rdV Tryz.prog b0 a0 (binOp .lss 3 Z U) fun c0 =>
 (condW c0
 ((rdV Tryz.prog b0 a0 (ixS 43 2 T Z) fun d0 =>
 rdV Tryz.prog b0 a0 (ldA 288 2 d0) fun e0 =>
 un (Value.agg (Value.cells e0)) fun g0 =>
 chk (List.length (Array.toList (Value.cells e0)) == 2) (chk (List.all (Array.toList (Value.cells e0)) one) ((chk (isA g0) (un (cellOf g0 0) fun h0 =>
 eF Tryz.prog R b0 a0 true Q #[h0] fun i0 j0 k0 =>
 rdV Tryz.prog k0 j0 (Op.unary UnOp.not i0) fun l0 =>
 (condW l0
 (fin R k0 j0 (B false))
 (((rdV Tryz.prog k0 j0 (binOp .add 3 Z (I 1)) fun m0 =>
 nx1 V Y m0 j0 k0))))))))))
 (((rdV Tryz.prog b0 a0 (fld 46 4 11 1 a) fun n0 =>
 rdV Tryz.prog b0 a0 (ld1 44 n0) fun o0 =>
 rdV Tryz.prog b0 a0 (lnS 44 3 o0) fun q0 =>
 (lp3 b0 a0 (I 0) undef undef 57 76 64 fun r0 s0 t0 _ _ v0 y0 =>
 rdV Tryz.prog y0 v0 (binOp .lss 3 t0 q0) fun z0 =>
 (condW z0
 ((rdV Tryz.prog y0 v0 (ixS 44 8 o0 t0) fun A0 =>
 rdV Tryz.prog y0 v0 (ldA 229 8 A0) fun C0 =>
 un (Value.agg (Value.cells C0)) fun D0 =>
 chk (List.length (Array.toList (Value.cells C0)) == 8) (chk (List.all (Array.toList (Value.cells C0)) one) ((chk (isA D0) (un (cellOf D0 6) fun E0 =>
 rdV Tryz.prog y0 v0 (lnS 36 3 E0) fun F0 =>
 (lp1 y0 v0 (I 0) 64 fun G0 H0 L0 M0 N0 =>
 rdV Tryz.prog N0 M0 (binOp .lss 3 L0 F0) fun O0 =>
 (condW O0
 ((rdV Tryz.prog N0 M0 (ixS 36 1 E0 L0) fun Q0 =>
 rdV Tryz.prog N0 M0 (ld1 9 Q0) fun S0 =>
 (eF Tryz.prog R N0 M0 true Q #[S0] fun T0 U0 V0 =>
 rdV Tryz.prog V0 U0 (Op.unary UnOp.not T0) fun Y0 =>
 (condW Y0
 (fin R V0 U0 (B false))
 (((rdV Tryz.prog V0 U0 (binOp .add 3 L0 (I 1)) fun Z0 =>
 nx1 G0 H0 Z0 U0 V0)))))))
 (((chk (isA D0) (un (cellOf D0 7) fun a1 =>
 rdV Tryz.prog N0 M0 (lnS 23 3 a1) fun b1 =>
 (lp1 N0 M0 (I 0) 76 fun c1 d1 e1 g1 h1 =>
 rdV Tryz.prog h1 g1 (binOp .lss 3 e1 b1) fun i1 =>
 (condW i1
 ((rdV Tryz.prog h1 g1 (ixS 23 4 a1 e1) fun j1 =>
 rdV Tryz.prog h1 g1 (ldA 53 4 j1) fun k1 =>
 un (Value.agg (Value.cells k1)) fun l1 =>
 chk (List.length (Array.toList (Value.cells k1)) == 4) (chk (List.all (Array.toList (Value.cells k1)) one) ((chk (isA l1) (un (cellOf l1 0) fun m1 =>
 eF Tryz.prog R h1 g1 true Q #[m1] fun n1 o1 q1 =>
 rdV Tryz.prog q1 o1 (Op.unary UnOp.not n1) fun r1 =>
 (condW r1
 (fin R q1 o1 (B false))
 (((rdV Tryz.prog q1 o1 (binOp .add 3 e1 (I 1)) fun s1 =>
 nx1 c1 d1 s1 o1 q1))))))))))
 ((((rdV Tryz.prog h1 g1 (binOp .add 3 t0 (I 1)) fun t1 =>
 nx3 r0 s0 t1 e1 L0 g1 h1))))))))))))))))))
 (fin R y0 v0 (B true)))))))))))))))))) fun v1 =>
 (gE r false (eC Tryz.prog R o n true 165 #[t] v1) (v1 undef n o))) fun y1 =>
 (gE j false (eC Tryz.prog R i h true 165 #[l] y1) (y1 undef h i)))
theorem ok_recs_StateMay {R : Ending → World → Prop} {w0 : World} {p0_0 p0_1 : Int} {p0_2 p0_3 : Nat} {p0_4 p0_5 p0_6 p0_7 p0_8 p0_9 : Int} {p0_10 p0_11 : Value} (h : vc_recs_StateMay R w0 (old w0) p0_0 p0_1 p0_2 p0_3 p0_4 p0_5 p0_6 p0_7 p0_8 p0_9 p0_10 p0_11) : Calls Tryz.prog 167 #[(.agg #[(I p0_0), (I p0_1), (.float .f64 p0_2), (.float .f64 p0_3), (I p0_4), (I p0_5), (I p0_6), (I p0_7), (I p0_8), (I p0_9), p0_10, p0_11])] w0 R :=
  calls_of_vc (pl := pl_recs_StateMay) Tryz.func167 (by kernel_rfl) (by kernel_rfl) h
noncomputable def pl_recs_Apply : Plan := ⟨29, [(4, (Tryz.prog.cellsOf 35)), (5, (Tryz.prog.cellsOf 35)), (6, (Tryz.prog.cellsOf 33))], [], [0, 1, 2, 3, 8, 22], [12, 13, 14, 15, 16, 18, 19, 20, 21], []⟩
def vc_recs_Apply (R : Ending → World → Prop) (w0 : World) (X0 : XS) (p0_0 p0_1 p0_2 p1_0 p1_1 p1_2 p2_0 p2_1 p2_2 : Int) (p3 : Value) : Prop :=
 (eC Tryz.prog R X0 w0 true 165 #[(.agg #[(I p0_0), (I p0_1), (I p0_2)])] fun a b c =>
 rdV Tryz.prog c b (Op.unary UnOp.not a) fun d =>
 un (gSel d false (.agg #[(I p0_0), (I p0_1), (I p0_2)])) fun e =>
 un (gSel d false (.agg #[(I p1_0), (I p1_1), (I p1_2)])) fun g =>
 jn (fun (h : Value) (i : World) (j : XS) =>
 grdW Tryz.prog j i d false (vS (binOp .geq 3 h (I 0))) fun k =>
 rdW Tryz.prog j i (pickN d (B true) k) fun l =>
 un (gSel l false p3) fun m =>
 grdW Tryz.prog j i l false (vS (lnS 23 3 m)) fun n =>
 grdW Tryz.prog j i l false (vS (binS .eql 3 (.tmp 20) (.const (I 0)) n (I 0))) fun o =>
 rdW Tryz.prog j i (pickN l (B true) o) fun q =>
 (condW q
 (fin R j i (B false))
 ((rdV Tryz.prog j i (bld 229 #[(I p2_0), (I p2_1), (I p2_2), (I p1_0), (I p1_1), (I p1_2), (.slice none 0 0), p3] #[(0, (.agg #[(I p2_0), (I p2_1), (I p2_2)])), (1, (.agg #[(I p1_0), (I p1_1), (I p1_2)])), (3, p3)]) fun r =>
 eC Tryz.prog R j i true 250 #[r] fun s t v =>
 rdV Tryz.prog v t (binS .eql 29 (.tmp 27) (.const (I 0)) s (I 0)) fun y =>
 (fin R v t y))))) fun z =>
 (gE d false (eC Tryz.prog R c b true 53 #[e, g] z) (z undef b c)))
theorem ok_recs_Apply {R : Ending → World → Prop} {w0 : World} {p0_0 p0_1 p0_2 p1_0 p1_1 p1_2 p2_0 p2_1 p2_2 : Int} {p3 : Value} (h : vc_recs_Apply R w0 (old w0) p0_0 p0_1 p0_2 p1_0 p1_1 p1_2 p2_0 p2_1 p2_2 p3) : Calls Tryz.prog 168 #[(.agg #[(I p0_0), (I p0_1), (I p0_2)]), (.agg #[(I p1_0), (I p1_1), (I p1_2)]), (.agg #[(I p2_0), (I p2_1), (I p2_2)]), p3] w0 R :=
  calls_of_vc (pl := pl_recs_Apply) Tryz.func168 (by kernel_rfl) (by kernel_rfl) h
noncomputable def pl_frame_Frame : Plan := ⟨27, [], [], [0, 2, 3, 4, 7], [], []⟩
def vc_frame_Frame (R : Ending → World → Prop) (w0 : World) (X0 : XS) (p0 : Value) : Prop :=
 (rdV Tryz.prog X0 w0 (lnS 95 3 p0) fun a =>
 rdV Tryz.prog X0 w0 (binOp .gtr 3 a (I 262144)) fun b =>
 (condW b
 ((fin R X0 w0 (Value.tuple #[(.slice none 0 0), (I 2)])))
 ((rdV Tryz.prog X0 w0 (lnS 95 3 p0) fun c =>
 rdV Tryz.prog X0 w0 (binOp .add 3 c (I 12)) fun d =>
 eV Tryz.prog R X0 w0 true (Instr.makeSlice 95 (I 0) d) fun e g h =>
 rdV Tryz.prog h g (lnS 95 3 p0) fun i =>
 rdV Tryz.prog h g (cvI IntKind.u32 3 281 i) fun j =>
 eC Tryz.prog R h g true 251 #[e, j] fun k l m =>
 (eC Tryz.prog R m l true 203 #[k] fun n o q =>
 eC Tryz.prog R q o true 251 #[k, n] fun r s t =>
 (eV Tryz.prog R t s true (apS 95 5 1 1 95 r p0) fun v y z =>
 (eC Tryz.prog R z y true 203 #[p0] fun A C D =>
 eC Tryz.prog R D C true 251 #[v, A] fun E F G =>
 (fin R G F (Value.tuple #[E, (I 0)])))))))))
theorem ok_frame_Frame {R : Ending → World → Prop} {w0 : World} {p0 : Value} (h : vc_frame_Frame R w0 (old w0) p0) : Calls Tryz.prog 169 #[p0] w0 R :=
  calls_of_vc (pl := pl_frame_Frame) Tryz.func169 (by kernel_rfl) (by kernel_rfl) h
noncomputable def pl_disk_Disk_Append : Plan := ⟨53, [], [], [0, 1, 2, 6, 7, 8, 15, 20, 23, 52], [], []⟩
def vc_disk_Disk_Append (R : Ending → World → Prop) (w0 : World) (X0 : XS) (p0 : Value) (p1 : ByteArray) (p2 : Value) : Prop :=
 (rdW Tryz.prog X0 w0 (nilN p0) fun a =>
 rdV Tryz.prog X0 w0 (fld 106 0 0 1 a) fun b =>
 rdV Tryz.prog X0 w0 (ld1 104 b) fun c =>
 rdV Tryz.prog X0 w0 (Instr.lookup 104 c (.string p1) false) fun d =>
 (rdW Tryz.prog X0 w0 (nilN p0) fun e =>
 rdV Tryz.prog X0 w0 (fld 106 4 4 1 e) fun g =>
 rdV Tryz.prog X0 w0 (ld1 4 g) fun h =>
 (condW h
 (fin R X0 w0 (I 12))
 (rdV Tryz.prog X0 w0 (binS .eql 135 (.tmp 21) (.const (.pointer none)) d (.pointer none)) fun i =>
 (condW i
 (fin R X0 w0 (I 8))
 (rdV Tryz.prog X0 w0 (lnS 95 3 p2) fun j =>
 rdW Tryz.prog X0 w0 (nilN p0) fun k =>
 rdV Tryz.prog X0 w0 (fld 106 1 1 1 k) fun l =>
 rdV Tryz.prog X0 w0 (ld1 3 l) fun m =>
 rdV Tryz.prog X0 w0 (binOp .sub 3 (I 4194304) m) fun n =>
 rdV Tryz.prog X0 w0 (binOp .gtr 3 j n) fun o =>
 (condW o
 (fin R X0 w0 (I 11))
 (((eC Tryz.prog R X0 w0 true 252 #[p0] fun q r s =>
 (rdW Tryz.prog s r (nilN d) fun t =>
 rdV Tryz.prog s r (fld 141 0 0 1 t) fun v =>
 rdV Tryz.prog s r (ld1 95 v) fun y =>
 eV Tryz.prog R s r true (apS 95 5 1 1 95 y p2) fun z A C =>
 rdW Tryz.prog C A (nilN d) fun D =>
 rdV Tryz.prog C A (fld 141 0 0 1 D) fun E =>
 eU Tryz.prog R C A true (st1 95 1 E z) fun _ F G =>
 (rdW Tryz.prog G F (nilN p0) fun H =>
 rdV Tryz.prog G F (fld 106 1 1 1 H) fun L =>
 rdV Tryz.prog G F (ld1 3 L) fun M =>
 rdV Tryz.prog G F (lnS 95 3 p2) fun N =>
 rdV Tryz.prog G F (binOp .add 3 M N) fun O =>
 rdW Tryz.prog G F (nilN p0) fun Q =>
 rdV Tryz.prog G F (fld 106 1 1 1 Q) fun S =>
 eU Tryz.prog R G F true (st1 3 1 S O) fun _ T U =>
 ((condW q
 (fin R U T (I 12))
 (fin R U T (I 0))))))))))))))))
theorem ok_disk_Disk_Append {R : Ending → World → Prop} {w0 : World} {p0 : Value} {p1 : ByteArray} {p2 : Value} (h : vc_disk_Disk_Append R w0 (old w0) p0 p1 p2) : Calls Tryz.prog 170 #[p0, (.string p1), p2] w0 R :=
  calls_of_vc (pl := pl_disk_Disk_Append) Tryz.func170 (by kernel_rfl) (by kernel_rfl) h
noncomputable def pl_disk_Disk_Sync : Plan := ⟨11, [], [], [0, 1, 2, 3, 4], [], []⟩
def vc_disk_Disk_Sync (R : Ending → World → Prop) (w0 : World) (X0 : XS) (p0 : Value) (p1 : ByteArray) : Prop :=
 eV Tryz.prog R X0 w0 true (Instr.box 26 p0) fun a b c =>
 eV Tryz.prog R c b true (Instr.box 9 (.string p1)) fun d e g =>
 (rdV Tryz.prog g e (ld1 26 a) fun h =>
 rdV Tryz.prog g e (ld1 26 a) fun i =>
 rdV Tryz.prog g e (ld1 9 d) fun j =>
 rdV Tryz.prog g e (Instr.makeFunc (Fn.func 253) #[] #[a, d]) fun k =>
 eC Tryz.prog R g e false 173 #[i, j] fun l m n =>
 eC Tryz.prog R n m true 172 #[h, l, k] fun o q r =>
 (fin R r q o))
theorem ok_disk_Disk_Sync {R : Ending → World → Prop} {w0 : World} {p0 : Value} {p1 : ByteArray} (h : vc_disk_Disk_Sync R w0 (old w0) p0 p1) : Calls Tryz.prog 171 #[p0, (.string p1)] w0 R :=
  calls_of_vc (pl := pl_disk_Disk_Sync) Tryz.func171 (by kernel_rfl) (by kernel_rfl) h
noncomputable def pl_disk_Disk_write : Plan := ⟨21, [], [], [0, 1, 2, 6, 7, 12, 16], [], []⟩
def vc_disk_Disk_write (R : Ending → World → Prop) (w0 : World) (X0 : XS) (p0 : Value) (p1 : Int) (p2 : Value) : Prop :=
 (rdW Tryz.prog X0 w0 (nilN p0) fun a =>
 rdV Tryz.prog X0 w0 (fld 106 4 4 1 a) fun b =>
 rdV Tryz.prog X0 w0 (ld1 4 b) fun c =>
 (condW c
 (fin R X0 w0 (I 12))
 (rdV Tryz.prog X0 w0 (binS .neq 29 (.tmp 13) (.const (I 0)) (I p1) (I 0)) fun d =>
 (condW d
 (fin R X0 w0 (I p1))
 (eC Tryz.prog R X0 w0 true 252 #[p0] fun e g h =>
 (condW e
 (fin R h g (I 12))
 (((eF Tryz.prog R h g true p2 #[] fun _ i j =>
 (fin R j i (I 0)))))))))))
theorem ok_disk_Disk_write {R : Ending → World → Prop} {w0 : World} {p0 : Value} {p1 : Int} {p2 : Value} (h : vc_disk_Disk_write R w0 (old w0) p0 p1 p2) : Calls Tryz.prog 172 #[p0, (I p1), p2] w0 R :=
  calls_of_vc (pl := pl_disk_Disk_write) Tryz.func172 (by kernel_rfl) (by kernel_rfl) h
noncomputable def pl_disk_Disk_has : Plan := ⟨12, [], [], [0, 1, 4, 11], [], []⟩
def vc_disk_Disk_has (R : Ending → World → Prop) (w0 : World) (X0 : XS) (p0 : Value) (p1 : ByteArray) : Prop :=
 (rdW Tryz.prog X0 w0 (nilN p0) fun a =>
 rdV Tryz.prog X0 w0 (fld 106 0 0 1 a) fun b =>
 rdV Tryz.prog X0 w0 (ld1 104 b) fun c =>
 rdV Tryz.prog X0 w0 (Instr.lookup 104 c (.string p1) false) fun d =>
 rdV Tryz.prog X0 w0 (binS .eql 135 (.tmp 10) (.const (.pointer none)) d (.pointer none)) fun e =>
 (condW e
 (fin R X0 w0 (I 8))
 (fin R X0 w0 (I 0))))
theorem ok_disk_Disk_has {R : Ending → World → Prop} {w0 : World} {p0 : Value} {p1 : ByteArray} (h : vc_disk_Disk_has R w0 (old w0) p0 p1) : Calls Tryz.prog 173 #[p0, (.string p1)] w0 R :=
  calls_of_vc (pl := pl_disk_Disk_has) Tryz.func173 (by kernel_rfl) (by kernel_rfl) h
noncomputable def pl_disk_Disk_Remove_c1 : Plan := ⟨5, [], [], [0, 1], [], []⟩
def vc_disk_Disk_Remove_c1 (R : Ending → World → Prop) (w0 : World) (X0 : XS) (c0 c1 : Value) : Prop :=
 rdV Tryz.prog X0 w0 (ld1 26 c0) fun a =>
 rdV Tryz.prog X0 w0 (ld1 9 c1) fun b =>
 eC Tryz.prog R X0 w0 true 175 #[a, b] fun _ c d =>
 fin R d c (Value.tuple #[])
theorem ok_disk_Disk_Remove_c1 {R : Ending → World → Prop} {w0 : World} {c0 c1 : Value} (h : vc_disk_Disk_Remove_c1 R w0 (old w0) c0 c1) : Calls Tryz.prog 174 #[c0, c1] w0 R :=
  calls_of_vc (pl := pl_disk_Disk_Remove_c1) Tryz.func174 (by kernel_rfl) (by kernel_rfl) h
noncomputable def pl_disk_Disk_drop : Plan := ⟨30, [], [], [0, 1, 4, 12], [], []⟩
def vc_disk_Disk_drop (R : Ending → World → Prop) (w0 : World) (X0 : XS) (p0 : Value) (p1 : ByteArray) : Prop :=
 rdW Tryz.prog X0 w0 (nilN p0) fun a =>
 rdV Tryz.prog X0 w0 (fld 106 0 0 1 a) fun b =>
 rdV Tryz.prog X0 w0 (ld1 104 b) fun c =>
 rdV Tryz.prog X0 w0 (Instr.lookup 104 c (.string p1) false) fun d =>
 (rdV Tryz.prog X0 w0 (binS .neq 135 (.tmp 11) (.const (.pointer none)) d (.pointer none)) fun e =>
 (condW e
 (rdW Tryz.prog X0 w0 (nilN p0) fun g =>
 rdV Tryz.prog X0 w0 (fld 106 1 1 1 g) fun h =>
 rdV Tryz.prog X0 w0 (ld1 3 h) fun i =>
 rdW Tryz.prog X0 w0 (nilN d) fun j =>
 rdV Tryz.prog X0 w0 (fld 141 0 0 1 j) fun k =>
 rdV Tryz.prog X0 w0 (ld1 95 k) fun l =>
 rdV Tryz.prog X0 w0 (lnS 95 3 l) fun m =>
 rdV Tryz.prog X0 w0 (binOp .sub 3 i m) fun n =>
 rdW Tryz.prog X0 w0 (nilN p0) fun o =>
 rdV Tryz.prog X0 w0 (fld 106 1 1 1 o) fun q =>
 eU Tryz.prog R X0 w0 true (st1 3 1 q n) fun _ r s =>
 (rdW Tryz.prog s r (nilN p0) fun t =>
 rdV Tryz.prog s r (fld 106 0 0 1 t) fun v =>
 rdV Tryz.prog s r (ld1 104 v) fun y =>
 eV Tryz.prog R s r true (Builtin.delete_ #[104, 9] 0 #[y, (.string p1)]) fun _ z A =>
 fin R A z (Value.tuple #[])))
 (fin R X0 w0 (Value.tuple #[]))))
theorem ok_disk_Disk_drop {R : Ending → World → Prop} {w0 : World} {p0 : Value} {p1 : ByteArray} (h : vc_disk_Disk_drop R w0 (old w0) p0 p1) : Calls Tryz.prog 175 #[p0, (.string p1)] w0 R :=
  calls_of_vc (pl := pl_disk_Disk_drop) Tryz.func175 (by kernel_rfl) (by kernel_rfl) h
noncomputable def pl_raceref_WeighHistories : Plan := ⟨60, [], [], [0, 1, 4, 5, 6, 7, 16, 41], [12, 13, 14, 15, 37, 38, 39, 40], [5, 6, 7]⟩
def vc_raceref_WeighHistories (R : Ending → World → Prop) (w0 : World) (X0 : XS) (p0 : Value) (p1 : Int) : Prop :=
 (((lp3 X0 w0 (I 0) undef (I 0) 6 7 5 fun a b c _ d e g =>
 rdV Tryz.prog g e (lnS 43 3 p0) fun h =>
 rdV Tryz.prog g e (binOp .lss 3 c h) fun i =>
 un (gSel i true d) fun j =>
 un (gSel i true (I p1)) fun k =>
 grdW Tryz.prog g e i true (vS (binOp .leq 3 j k)) fun l =>
 rdW Tryz.prog g e (pickN i l (B false)) fun m =>
 (condW m
 ((rdV Tryz.prog g e (ixS 43 2 p0 c) fun n =>
 rdV Tryz.prog g e (fld 288 0 0 1 n) fun o =>
 rdV Tryz.prog g e (ld1 9 o) fun q =>
 rdV Tryz.prog g e (lnT 9 3 q) fun r =>
 rdV Tryz.prog g e (binOp .add 3 (I 1) r) fun s =>
 eC Tryz.prog R g e true 40 #[d, s, (I p1)] fun t v y =>
 ((lp2 y v (I 0) t 7 5 fun z A C D E F =>
 rdV Tryz.prog F E (ixS 43 2 p0 c) fun G =>
 rdV Tryz.prog F E (fld 288 1 1 1 G) fun H =>
 rdV Tryz.prog F E (ld1 286 H) fun L =>
 rdV Tryz.prog F E (lnS 286 3 L) fun M =>
 rdV Tryz.prog F E (binOp .lss 3 C M) fun N =>
 un (gSel N true D) fun O =>
 un (gSel N true (I p1)) fun Q =>
 grdW Tryz.prog F E N true (vS (binOp .leq 3 O Q)) fun S =>
 rdW Tryz.prog F E (pickN N S (B false)) fun T =>
 (condW T
 ((rdV Tryz.prog F E (ixS 43 2 p0 c) fun U =>
 rdV Tryz.prog F E (fld 288 1 1 1 U) fun V =>
 rdV Tryz.prog F E (ld1 286 V) fun Y =>
 rdV Tryz.prog F E (ixS 286 6 Y C) fun Z =>
 rdV Tryz.prog F E (fld 337 1 3 3 Z) fun a0 =>
 rdV Tryz.prog F E (fld 51 2 2 1 a0) fun b0 =>
 rdV Tryz.prog F E (ld1 9 b0) fun c0 =>
 rdV Tryz.prog F E (lnT 9 3 c0) fun d0 =>
 rdV Tryz.prog F E (binOp .add 3 (I 1) d0) fun e0 =>
 eC Tryz.prog R F E true 40 #[D, e0, (I p1)] fun g0 h0 i0 =>
 ((rdV Tryz.prog i0 h0 (binOp .add 3 C (I 1)) fun j0 =>
 nx2 z A j0 g0 h0 i0))))
 ((((rdV Tryz.prog F E (binOp .add 3 c (I 1)) fun k0 =>
 nx3 a b k0 C D E F)))))))))
 (fin R g e d)))))
theorem ok_raceref_WeighHistories {R : Ending → World → Prop} {w0 : World} {p0 : Value} {p1 : Int} (h : vc_raceref_WeighHistories R w0 (old w0) p0 p1) : Calls Tryz.prog 176 #[p0, (I p1)] w0 R :=
  calls_of_vc (pl := pl_raceref_WeighHistories) Tryz.func176 (by kernel_rfl) (by kernel_rfl) h
noncomputable def pl_raceref_WeighPendings : Plan := ⟨39, [], [], [0, 1, 4, 5, 6, 15], [11, 12, 13, 14, 18], [5, 6]⟩
def vc_raceref_WeighPendings (R : Ending → World → Prop) (w0 : World) (X0 : XS) (p0 : Value) (p1 : Int) : Prop :=
 (((lp2 X0 w0 (I 0) (I 0) 6 5 fun a b c d e g =>
 rdV Tryz.prog g e (lnS 44 3 p0) fun h =>
 rdV Tryz.prog g e (binOp .lss 3 c h) fun i =>
 un (gSel i true d) fun j =>
 un (gSel i true (I p1)) fun k =>
 grdW Tryz.prog g e i true (vS (binOp .leq 3 j k)) fun l =>
 rdW Tryz.prog g e (pickN i l (B false)) fun m =>
 (condW m
 ((rdV Tryz.prog g e (ixS 44 8 p0 c) fun n =>
 rdV Tryz.prog g e (fld 229 2 6 1 n) fun o =>
 rdV Tryz.prog g e (ld1 36 o) fun q =>
 rdV Tryz.prog g e (ixS 44 8 p0 c) fun r =>
 rdV Tryz.prog g e (fld 229 3 7 1 r) fun s =>
 rdV Tryz.prog g e (ld1 23 s) fun t =>
 eC Tryz.prog R g e false 23 #[q, (I p1)] fun v y z =>
 rdV Tryz.prog z y (binOp .add 3 (I 1) v) fun A =>
 eC Tryz.prog R z y false 40 #[d, A, (I p1)] fun C D E =>
 eC Tryz.prog R E D true 10 #[t, (I p1)] fun F G H =>
 eC Tryz.prog R H G true 40 #[C, F, (I p1)] fun L M N =>
 ((rdV Tryz.prog N M (binOp .add 3 c (I 1)) fun O =>
 nx2 a b O L M N))))
 (fin R g e d)))))
theorem ok_raceref_WeighPendings {R : Ending → World → Prop} {w0 : World} {p0 : Value} {p1 : Int} (h : vc_raceref_WeighPendings R w0 (old w0) p0 p1) : Calls Tryz.prog 177 #[p0, (I p1)] w0 R :=
  calls_of_vc (pl := pl_raceref_WeighPendings) Tryz.func177 (by kernel_rfl) (by kernel_rfl) h
noncomputable def pl_frame_Sum : Plan := ⟨54, [], [], [0, 2, 3, 5, 6, 8, 11, 12, 13, 14, 15, 22, 23, 36, 37, 38, 39], [], [3, 14, 22, 38]⟩
def vc_frame_Sum (R : Ending → World → Prop) (w0 : World) (X0 : XS) (p0 : Value) : Prop :=
 ((rdV Tryz.prog X0 w0 (lnS 95 3 p0) fun a =>
 rdV Tryz.prog X0 w0 (binOp .lss 3 a (I 64)) fun b =>
 (condW b
 (rdV Tryz.prog X0 w0 (lnS 95 3 p0) fun c =>
 (lp3 X0 w0 (I 0) undef (Value.int IntKind.u32 4294967295) 14 22 3 fun d e g _ h i j =>
 rdV Tryz.prog j i (binOp .lss 3 g c) fun k =>
 (condW k
 ((rdV Tryz.prog j i (ixS 95 1 p0 g) fun l =>
 rdV Tryz.prog j i (ld1 5 l) fun m =>
 (rdV Tryz.prog j i (cvI IntKind.u32 5 281 m) fun n =>
 rdV Tryz.prog j i (binOp .xor 281 h n) fun o =>
 ((lp2 j i (I 0) o 22 3 fun q r s t v y =>
 rdV Tryz.prog y v (binOp .lss 3 s (I 8)) fun z =>
 (condW z
 ((rdV Tryz.prog y v (binOp .shr 281 t (Value.int IntKind.u64 1)) fun A =>
 rdV Tryz.prog y v (binOp .and 281 t (Value.int IntKind.u32 1)) fun C =>
 rdV Tryz.prog y v (Op.unary UnOp.neg C) fun D =>
 rdV Tryz.prog y v (binOp .and 281 (Value.int IntKind.u32 2197175160) D) fun E =>
 rdV Tryz.prog y v (binOp .xor 281 A E) fun F =>
 ((rdV Tryz.prog y v (binOp .add 3 s (I 1)) fun G =>
 nx2 q r G F v y))))
 ((((rdV Tryz.prog y v (binOp .add 3 g (I 1)) fun H =>
 nx3 d e H s t v y))))))))))
 (rdV Tryz.prog j i (Op.unary UnOp.xor h) fun L =>
 (fin R j i L)))))
 ((eC Tryz.prog R X0 w0 true 287 #[] fun M N O =>
 eV Tryz.prog R O N true (Instr.alloc 353 true (Value.tuple #[])) fun Q S T =>
 eU Tryz.prog R T S true (st1 353 256 Q M) fun _ U V =>
 (rdV Tryz.prog V U (lnS 95 3 p0) fun Y =>
 (lp2 V U (I 0) (Value.int IntKind.u32 4294967295) 38 3 fun Z a0 b0 c0 d0 e0 =>
 rdV Tryz.prog e0 d0 (binOp .lss 3 b0 Y) fun g0 =>
 (condW g0
 ((rdV Tryz.prog e0 d0 (ixS 95 1 p0 b0) fun h0 =>
 rdV Tryz.prog e0 d0 (ld1 5 h0) fun i0 =>
 (rdV Tryz.prog e0 d0 (binOp .shr 281 c0 (Value.int IntKind.u64 8)) fun j0 =>
 rdV Tryz.prog e0 d0 (cvI IntKind.u8 281 5 c0) fun k0 =>
 rdV Tryz.prog e0 d0 (binOp .xor 5 k0 i0) fun l0 =>
 rdV Tryz.prog e0 d0 (Instr.indexAt 353 Q l0) fun m0 =>
 rdV Tryz.prog e0 d0 (ld1 281 m0) fun n0 =>
 rdV Tryz.prog e0 d0 (binOp .xor 281 j0 n0) fun o0 =>
 ((rdV Tryz.prog e0 d0 (binOp .add 3 b0 (I 1)) fun q0 =>
 nx2 Z a0 q0 o0 d0 e0)))))
 (rdV Tryz.prog e0 d0 (Op.unary UnOp.xor c0) fun r0 =>
 (fin R e0 d0 r0))))))))))
theorem ok_frame_Sum {R : Ending → World → Prop} {w0 : World} {p0 : Value} (h : vc_frame_Sum R w0 (old w0) p0) : Calls Tryz.prog 203 #[p0] w0 R :=
  calls_of_vc (pl := pl_frame_Sum) Tryz.func203 (by kernel_rfl) (by kernel_rfl) h
noncomputable def pl_disk_Disk_Create_c1 : Plan := ⟨9, [], [], [0, 1], [], []⟩
def vc_disk_Disk_Create_c1 (R : Ending → World → Prop) (w0 : World) (X0 : XS) (c0 c1 : Value) : Prop :=
 rdV Tryz.prog X0 w0 (ld1 26 c0) fun a =>
 rdW Tryz.prog X0 w0 (nilN a) fun b =>
 rdV Tryz.prog X0 w0 (fld 106 0 0 1 b) fun c =>
 rdV Tryz.prog X0 w0 (ld1 104 c) fun d =>
 rdV Tryz.prog X0 w0 (ld1 9 c1) fun e =>
 rdV Tryz.prog X0 w0 (bld 141 #[(.slice none 0 0), (I 0)] #[]) fun g =>
 eV Tryz.prog R X0 w0 false (Instr.box 141 g) fun h i j =>
 eU Tryz.prog R j i true (Instr.mapUpdate 104 d e h) fun _ k l =>
 fin R l k (Value.tuple #[])
theorem ok_disk_Disk_Create_c1 {R : Ending → World → Prop} {w0 : World} {c0 c1 : Value} (h : vc_disk_Disk_Create_c1 R w0 (old w0) c0 c1) : Calls Tryz.prog 204 #[c0, c1] w0 R :=
  calls_of_vc (pl := pl_disk_Disk_Create_c1) Tryz.func204 (by kernel_rfl) (by kernel_rfl) h
noncomputable def pl_wire_Writer_Int : Plan := ⟨39, [], [], [0, 1, 4, 9, 13], [], [4]⟩
def vc_wire_Writer_Int (R : Ending → World → Prop) (w0 : World) (X0 : XS) (p0 : Value) (p1 : Int) : Prop :=
 rdV Tryz.prog X0 w0 (cvI IntKind.u64 3 196 (I p1)) fun a =>
 rdV Tryz.prog X0 w0 (binOp .shl 196 a (Value.int IntKind.u64 1)) fun b =>
 ((jn (fun (c : Value) =>
 lp1 X0 w0 c 4 fun d e g h i =>
 rdV Tryz.prog i h (binOp .geq 196 g (Value.int IntKind.u64 128)) fun j =>
 (condW j
 ((rdW Tryz.prog i h (nilN p0) fun k =>
 rdV Tryz.prog i h (fld 308 0 0 1 k) fun l =>
 rdV Tryz.prog i h (ld1 95 l) fun m =>
 rdV Tryz.prog i h (cvI IntKind.u8 196 5 g) fun n =>
 rdV Tryz.prog i h (binOp .or 5 n (Value.int IntKind.u8 128)) fun o =>
 eV Tryz.prog R i h true (bsS 95 5 1 1 #[(0, o)]) fun q r s =>
 eV Tryz.prog R s r true (apS 95 5 1 1 95 m q) fun t v y =>
 rdW Tryz.prog y v (nilN p0) fun z =>
 rdV Tryz.prog y v (fld 308 0 0 1 z) fun A =>
 eU Tryz.prog R y v true (st1 95 1 A t) fun _ C D =>
 (rdV Tryz.prog D C (binOp .shr 196 g (Value.int IntKind.u64 7)) fun E =>
 (nx1 d e E C D))))
 (((rdW Tryz.prog i h (nilN p0) fun F =>
 rdV Tryz.prog i h (fld 308 0 0 1 F) fun G =>
 rdV Tryz.prog i h (ld1 95 G) fun H =>
 rdV Tryz.prog i h (cvI IntKind.u8 196 5 g) fun L =>
 eV Tryz.prog R i h true (bsS 95 5 1 1 #[(0, L)]) fun M N O =>
 eV Tryz.prog R O N true (apS 95 5 1 1 95 H M) fun Q S T =>
 rdW Tryz.prog T S (nilN p0) fun U =>
 rdV Tryz.prog T S (fld 308 0 0 1 U) fun V =>
 eU Tryz.prog R T S true (st1 95 1 V Q) fun _ Y Z =>
 fin R Z Y (Value.tuple #[])))))) fun a0 =>
 rdV Tryz.prog X0 w0 (binOp .lss 3 (I p1) (I 0)) fun b0 =>
 (condW b0
 (rdV Tryz.prog X0 w0 (Op.unary UnOp.xor b) fun c0 =>
 (a0 c0))
 (a0 b))))
theorem ok_wire_Writer_Int {R : Ending → World → Prop} {w0 : World} {p0 : Value} {p1 : Int} (h : vc_wire_Writer_Int R w0 (old w0) p0 p1) : Calls Tryz.prog 206 #[p0, (I p1)] w0 R :=
  calls_of_vc (pl := pl_wire_Writer_Int) Tryz.func206 (by kernel_rfl) (by kernel_rfl) h
noncomputable def pl_coder_Coder_Range : Plan := ⟨24, [], [], [0, 1], [], []⟩
def vc_coder_Coder_Range (R : Ending → World → Prop) (w0 : World) (X0 : XS) (p0 p1 : Value) : Prop :=
 rdW Tryz.prog X0 w0 (nilN p1) fun a =>
 rdV Tryz.prog X0 w0 (fld 42 0 0 1 a) fun b =>
 eC Tryz.prog R X0 w0 true 142 #[p0, b] fun _ c d =>
 (rdW Tryz.prog d c (nilN p1) fun e =>
 rdV Tryz.prog d c (fld 42 1 1 1 e) fun g =>
 eC Tryz.prog R d c true 142 #[p0, g] fun _ h i =>
 (rdW Tryz.prog i h (nilN p1) fun j =>
 rdV Tryz.prog i h (fld 42 2 2 1 j) fun k =>
 eC Tryz.prog R i h true 149 #[p0, k] fun _ l m =>
 (rdW Tryz.prog m l (nilN p1) fun n =>
 rdV Tryz.prog m l (fld 42 3 3 1 n) fun o =>
 eC Tryz.prog R m l true 149 #[p0, o] fun _ q r =>
 fin R r q (Value.tuple #[]))))
theorem ok_coder_Coder_Range {R : Ending → World → Prop} {w0 : World} {p0 p1 : Value} (h : vc_coder_Coder_Range R w0 (old w0) p0 p1) : Calls Tryz.prog 209 #[p0, p1] w0 R :=
  calls_of_vc (pl := pl_coder_Coder_Range) Tryz.func209 (by kernel_rfl) (by kernel_rfl) h
noncomputable def pl_coder_List_api_History : Plan := ⟨63, [(8, (Tryz.prog.cellsOf 288))], [], [0, 1, 2, 6, 7, 17, 38, 39, 40, 46], [], [39]⟩
def vc_coder_List_api_History (R : Ending → World → Prop) (w0 : World) (X0 : XS) (p0 p1 p2 : Value) : Prop :=
 rdW Tryz.prog X0 w0 (nilN p1) fun a =>
 rdV Tryz.prog X0 w0 (ld1 43 a) fun b =>
 rdV Tryz.prog X0 w0 (lnS 43 3 b) fun c =>
 ((jn (fun (d : Value) (e : World) (g : XS) =>
 (lp1 g e (I 0) 39 fun h i j k l =>
 rdV Tryz.prog l k (binOp .lss 3 j d) fun m =>
 (condW m
 ((((jn (fun (n : World) (o : XS) =>
 rdW Tryz.prog o n (nilN p1) fun q =>
 rdV Tryz.prog o n (ld1 43 q) fun r =>
 rdV Tryz.prog o n (ixS 43 2 r j) fun s =>
 eF Tryz.prog R o n true p2 #[s] fun _ t v =>
 ((rdV Tryz.prog v t (binOp .add 3 j (I 1)) fun y =>
 nx1 h i y t v))) fun z =>
 rdW Tryz.prog l k (nilN p0) fun A =>
 rdV Tryz.prog l k (fld 175 0 0 1 A) fun C =>
 rdV Tryz.prog l k (ld1 173 C) fun D =>
 rdV Tryz.prog l k (binS .eql 173 (.tmp 45) (.const (.pointer none)) D (.pointer none)) fun E =>
 (condW E
 ((rdW Tryz.prog l k (nilN p1) fun F =>
 rdV Tryz.prog l k (ld1 43 F) fun G =>
 eV Tryz.prog R l k false (bsS 43 288 2 1 #[(0, (.agg #[(.string { data := #[] }), (.slice none 0 0)]))]) fun H L M =>
 eV Tryz.prog R M L true (apS 43 288 2 40 43 G H) fun N O Q =>
 rdW Tryz.prog Q O (nilN p1) fun S =>
 eU Tryz.prog R Q O true (st1 43 1 S N) fun _ T U =>
 (z T U)))
 (z k l))))))
 (fin R l k (Value.tuple #[]))))) fun V =>
 rdW Tryz.prog X0 w0 (nilN p0) fun Y =>
 rdV Tryz.prog X0 w0 (fld 175 0 0 1 Y) fun Z =>
 rdV Tryz.prog X0 w0 (ld1 173 Z) fun a0 =>
 rdV Tryz.prog X0 w0 (binS .neq 173 (.tmp 16) (.const (.pointer none)) a0 (.pointer none)) fun b0 =>
 (condW b0
 (rdW Tryz.prog X0 w0 (nilN p0) fun c0 =>
 rdV Tryz.prog X0 w0 (fld 175 0 0 1 c0) fun d0 =>
 rdV Tryz.prog X0 w0 (ld1 173 d0) fun e0 =>
 eC Tryz.prog R X0 w0 true 206 #[e0, c] fun _ g0 h0 =>
 (V c g0 h0))
 (rdW Tryz.prog X0 w0 (nilN p0) fun i0 =>
 rdV Tryz.prog X0 w0 (fld 175 1 1 1 i0) fun j0 =>
 rdV Tryz.prog X0 w0 (ld1 169 j0) fun k0 =>
 rdW Tryz.prog X0 w0 (nilN p0) fun l0 =>
 rdV Tryz.prog X0 w0 (fld 175 1 1 1 l0) fun m0 =>
 rdV Tryz.prog X0 w0 (ld1 169 m0) fun n0 =>
 eC Tryz.prog R X0 w0 false 216 #[n0] fun o0 q0 r0 =>
 eC Tryz.prog R r0 q0 true 215 #[k0, o0] fun s0 t0 v0 =>
 (eC Tryz.prog R v0 t0 true 208 #[p0] fun _ y0 z0 =>
 (rdW Tryz.prog z0 y0 (nilN p1) fun A0 =>
 eU Tryz.prog R z0 y0 true (st1 43 1 A0 (.slice none 0 0)) fun _ C0 D0 =>
 (V s0 C0 D0)))))))
theorem ok_coder_List_api_History {R : Ending → World → Prop} {w0 : World} {p0 p1 p2 : Value} (h : vc_coder_List_api_History R w0 (old w0) p0 p1 p2) : Calls Tryz.prog 210 #[p0, p1, p2] w0 R :=
  calls_of_vc (pl := pl_coder_List_api_History) Tryz.func210 (by kernel_rfl) (by kernel_rfl) h
noncomputable def pl_coder_Coder_history : Plan := ⟨16, [], [], [0, 1], [], []⟩
def vc_coder_Coder_history (R : Ending → World → Prop) (w0 : World) (X0 : XS) (p0 p1 : Value) : Prop :=
 rdW Tryz.prog X0 w0 (nilN p1) fun a =>
 rdV Tryz.prog X0 w0 (fld 288 0 0 1 a) fun b =>
 eC Tryz.prog R X0 w0 true 214 #[p0, b] fun _ c d =>
 (rdW Tryz.prog d c (nilN p1) fun e =>
 rdV Tryz.prog d c (fld 288 1 1 1 e) fun g =>
 rdV Tryz.prog d c (Instr.makeFunc (Fn.func 290) #[p0] #[]) fun h =>
 eC Tryz.prog R d c true 289 #[p0, g, h] fun _ i j =>
 fin R j i (Value.tuple #[]))
theorem ok_coder_Coder_history {R : Ending → World → Prop} {w0 : World} {p0 p1 : Value} (h : vc_coder_Coder_history R w0 (old w0) p0 p1) : Calls Tryz.prog 211 #[p0, p1] w0 R :=
  calls_of_vc (pl := pl_coder_Coder_history) Tryz.func211 (by kernel_rfl) (by kernel_rfl) h
noncomputable def pl_coder_List_api_Pending : Plan := ⟨63, [(8, (Tryz.prog.cellsOf 229))], [], [0, 1, 2, 6, 7, 17, 38, 39, 40, 46], [], [39]⟩
def vc_coder_List_api_Pending (R : Ending → World → Prop) (w0 : World) (X0 : XS) (p0 p1 p2 : Value) : Prop :=
 rdW Tryz.prog X0 w0 (nilN p1) fun a =>
 rdV Tryz.prog X0 w0 (ld1 44 a) fun b =>
 rdV Tryz.prog X0 w0 (lnS 44 3 b) fun c =>
 ((jn (fun (d : Value) (e : World) (g : XS) =>
 (lp1 g e (I 0) 39 fun h i j k l =>
 rdV Tryz.prog l k (binOp .lss 3 j d) fun m =>
 (condW m
 ((((jn (fun (n : World) (o : XS) =>
 rdW Tryz.prog o n (nilN p1) fun q =>
 rdV Tryz.prog o n (ld1 44 q) fun r =>
 rdV Tryz.prog o n (ixS 44 8 r j) fun s =>
 eF Tryz.prog R o n true p2 #[s] fun _ t v =>
 ((rdV Tryz.prog v t (binOp .add 3 j (I 1)) fun y =>
 nx1 h i y t v))) fun z =>
 rdW Tryz.prog l k (nilN p0) fun A =>
 rdV Tryz.prog l k (fld 175 0 0 1 A) fun C =>
 rdV Tryz.prog l k (ld1 173 C) fun D =>
 rdV Tryz.prog l k (binS .eql 173 (.tmp 45) (.const (.pointer none)) D (.pointer none)) fun E =>
 (condW E
 ((rdW Tryz.prog l k (nilN p1) fun F =>
 rdV Tryz.prog l k (ld1 44 F) fun G =>
 eV Tryz.prog R l k false (bsS 44 229 8 1 #[(0, (.agg #[(I 0), (I 0), (I 0), (I 0), (I 0), (I 0), (.slice none 0 0), (.slice none 0 0)]))]) fun H L M =>
 eV Tryz.prog R M L true (apS 44 229 8 96 44 G H) fun N O Q =>
 rdW Tryz.prog Q O (nilN p1) fun S =>
 eU Tryz.prog R Q O true (st1 44 1 S N) fun _ T U =>
 (z T U)))
 (z k l))))))
 (fin R l k (Value.tuple #[]))))) fun V =>
 rdW Tryz.prog X0 w0 (nilN p0) fun Y =>
 rdV Tryz.prog X0 w0 (fld 175 0 0 1 Y) fun Z =>
 rdV Tryz.prog X0 w0 (ld1 173 Z) fun a0 =>
 rdV Tryz.prog X0 w0 (binS .neq 173 (.tmp 16) (.const (.pointer none)) a0 (.pointer none)) fun b0 =>
 (condW b0
 (rdW Tryz.prog X0 w0 (nilN p0) fun c0 =>
 rdV Tryz.prog X0 w0 (fld 175 0 0 1 c0) fun d0 =>
 rdV Tryz.prog X0 w0 (ld1 173 d0) fun e0 =>
 eC Tryz.prog R X0 w0 true 206 #[e0, c] fun _ g0 h0 =>
 (V c g0 h0))
 (rdW Tryz.prog X0 w0 (nilN p0) fun i0 =>
 rdV Tryz.prog X0 w0 (fld 175 1 1 1 i0) fun j0 =>
 rdV Tryz.prog X0 w0 (ld1 169 j0) fun k0 =>
 rdW Tryz.prog X0 w0 (nilN p0) fun l0 =>
 rdV Tryz.prog X0 w0 (fld 175 1 1 1 l0) fun m0 =>
 rdV Tryz.prog X0 w0 (ld1 169 m0) fun n0 =>
 eC Tryz.prog R X0 w0 false 216 #[n0] fun o0 q0 r0 =>
 eC Tryz.prog R r0 q0 true 215 #[k0, o0] fun s0 t0 v0 =>
 (eC Tryz.prog R v0 t0 true 208 #[p0] fun _ y0 z0 =>
 (rdW Tryz.prog z0 y0 (nilN p1) fun A0 =>
 eU Tryz.prog R z0 y0 true (st1 44 1 A0 (.slice none 0 0)) fun _ C0 D0 =>
 (V s0 C0 D0)))))))
theorem ok_coder_List_api_Pending {R : Ending → World → Prop} {w0 : World} {p0 p1 p2 : Value} (h : vc_coder_List_api_Pending R w0 (old w0) p0 p1 p2) : Calls Tryz.prog 212 #[p0, p1, p2] w0 R :=
  calls_of_vc (pl := pl_coder_List_api_Pending) Tryz.func212 (by kernel_rfl) (by kernel_rfl) h
noncomputable def pl_coder_List_string : Plan := ⟨63, [], [], [0, 1, 2, 6, 7, 8, 17, 38, 39, 40, 46], [], [39]⟩
def vc_coder_List_string (R : Ending → World → Prop) (w0 : World) (X0 : XS) (p0 p1 p2 : Value) : Prop :=
 rdW Tryz.prog X0 w0 (nilN p1) fun a =>
 rdV Tryz.prog X0 w0 (ld1 36 a) fun b =>
 rdV Tryz.prog X0 w0 (lnS 36 3 b) fun c =>
 ((jn (fun (d : Value) (e : World) (g : XS) =>
 (lp1 g e (I 0) 39 fun h i j k l =>
 rdV Tryz.prog l k (binOp .lss 3 j d) fun m =>
 (condW m
 ((((jn (fun (n : World) (o : XS) =>
 rdW Tryz.prog o n (nilN p1) fun q =>
 rdV Tryz.prog o n (ld1 36 q) fun r =>
 rdV Tryz.prog o n (ixS 36 1 r j) fun s =>
 eF Tryz.prog R o n true p2 #[s] fun _ t v =>
 ((rdV Tryz.prog v t (binOp .add 3 j (I 1)) fun y =>
 nx1 h i y t v))) fun z =>
 rdW Tryz.prog l k (nilN p0) fun A =>
 rdV Tryz.prog l k (fld 175 0 0 1 A) fun C =>
 rdV Tryz.prog l k (ld1 173 C) fun D =>
 rdV Tryz.prog l k (binS .eql 173 (.tmp 45) (.const (.pointer none)) D (.pointer none)) fun E =>
 (condW E
 ((rdW Tryz.prog l k (nilN p1) fun F =>
 rdV Tryz.prog l k (ld1 36 F) fun G =>
 eV Tryz.prog R l k true (bsS 36 9 1 1 #[(0, (.string { data := #[] }))]) fun H L M =>
 eV Tryz.prog R M L true (apS 36 9 1 16 36 G H) fun N O Q =>
 rdW Tryz.prog Q O (nilN p1) fun S =>
 eU Tryz.prog R Q O true (st1 36 1 S N) fun _ T U =>
 (z T U)))
 (z k l))))))
 (fin R l k (Value.tuple #[]))))) fun V =>
 rdW Tryz.prog X0 w0 (nilN p0) fun Y =>
 rdV Tryz.prog X0 w0 (fld 175 0 0 1 Y) fun Z =>
 rdV Tryz.prog X0 w0 (ld1 173 Z) fun a0 =>
 rdV Tryz.prog X0 w0 (binS .neq 173 (.tmp 16) (.const (.pointer none)) a0 (.pointer none)) fun b0 =>
 (condW b0
 (rdW Tryz.prog X0 w0 (nilN p0) fun c0 =>
 rdV Tryz.prog X0 w0 (fld 175 0 0 1 c0) fun d0 =>
 rdV Tryz.prog X0 w0 (ld1 173 d0) fun e0 =>
 eC Tryz.prog R X0 w0 true 206 #[e0, c] fun _ g0 h0 =>
 (V c g0 h0))
 (rdW Tryz.prog X0 w0 (nilN p0) fun i0 =>
 rdV Tryz.prog X0 w0 (fld 175 1 1 1 i0) fun j0 =>
 rdV Tryz.prog X0 w0 (ld1 169 j0) fun k0 =>
 rdW Tryz.prog X0 w0 (nilN p0) fun l0 =>
 rdV Tryz.prog X0 w0 (fld 175 1 1 1 l0) fun m0 =>
 rdV Tryz.prog X0 w0 (ld1 169 m0) fun n0 =>
 eC Tryz.prog R X0 w0 false 216 #[n0] fun o0 q0 r0 =>
 eC Tryz.prog R r0 q0 true 215 #[k0, o0] fun s0 t0 v0 =>
 (eC Tryz.prog R v0 t0 true 208 #[p0] fun _ y0 z0 =>
 (rdW Tryz.prog z0 y0 (nilN p1) fun A0 =>
 eU Tryz.prog R z0 y0 true (st1 36 1 A0 (.slice none 0 0)) fun _ C0 D0 =>
 (V s0 C0 D0)))))))
theorem ok_coder_List_string {R : Ending → World → Prop} {w0 : World} {p0 p1 p2 : Value} (h : vc_coder_List_string R w0 (old w0) p0 p1 p2) : Calls Tryz.prog 213 #[p0, p1, p2] w0 R :=
  calls_of_vc (pl := pl_coder_List_string) Tryz.func213 (by kernel_rfl) (by kernel_rfl) h
noncomputable def pl_coder_Coder_Text : Plan := ⟨26, [], [], [0, 1, 8], [], []⟩
def vc_coder_Coder_Text (R : Ending → World → Prop) (w0 : World) (X0 : XS) (p0 p1 : Value) : Prop :=
 rdW Tryz.prog X0 w0 (nilN p0) fun a =>
 rdV Tryz.prog X0 w0 (fld 175 0 0 1 a) fun b =>
 rdV Tryz.prog X0 w0 (ld1 173 b) fun c =>
 rdV Tryz.prog X0 w0 (binS .neq 173 (.tmp 7) (.const (.pointer none)) c (.pointer none)) fun d =>
 (condW d
 (rdW Tryz.prog X0 w0 (nilN p0) fun e =>
 rdV Tryz.prog X0 w0 (fld 175 0 0 1 e) fun g =>
 rdV Tryz.prog X0 w0 (ld1 173 g) fun h =>
 rdW Tryz.prog X0 w0 (nilN p1) fun i =>
 rdV Tryz.prog X0 w0 (ld1 9 i) fun j =>
 eC Tryz.prog R X0 w0 true 291 #[h, j] fun _ k l =>
 (fin R l k (Value.tuple #[])))
 ((rdW Tryz.prog X0 w0 (nilN p0) fun m =>
 rdV Tryz.prog X0 w0 (fld 175 1 1 1 m) fun n =>
 rdV Tryz.prog X0 w0 (ld1 169 n) fun o =>
 eC Tryz.prog R X0 w0 true 292 #[o, (I 262144)] fun q r s =>
 rdW Tryz.prog s r (nilN p1) fun t =>
 eU Tryz.prog R s r true (st1 9 1 t q) fun _ v y =>
 (eC Tryz.prog R y v true 208 #[p0] fun _ z A =>
 fin R A z (Value.tuple #[])))))
theorem ok_coder_Coder_Text {R : Ending → World → Prop} {w0 : World} {p0 p1 : Value} (h : vc_coder_Coder_Text R w0 (old w0) p0 p1) : Calls Tryz.prog 214 #[p0, p1] w0 R :=
  calls_of_vc (pl := pl_coder_Coder_Text) Tryz.func214 (by kernel_rfl) (by kernel_rfl) h
noncomputable def pl_wire_Writer_Flag : Plan := ⟨23, [], [], [0, 1, 4], [], []⟩
def vc_wire_Writer_Flag (R : Ending → World → Prop) (w0 : World) (X0 : XS) (p0 : Value) (p1 : Bool) : Prop :=
 (condW (B p1)
 (rdW Tryz.prog X0 w0 (nilN p0) fun a =>
 rdV Tryz.prog X0 w0 (fld 308 0 0 1 a) fun b =>
 rdV Tryz.prog X0 w0 (ld1 95 b) fun c =>
 eV Tryz.prog R X0 w0 true (bsS 95 5 1 1 #[(0, (Value.int IntKind.u8 1))]) fun d e g =>
 eV Tryz.prog R g e true (apS 95 5 1 1 95 c d) fun h i j =>
 rdW Tryz.prog j i (nilN p0) fun k =>
 rdV Tryz.prog j i (fld 308 0 0 1 k) fun l =>
 eU Tryz.prog R j i true (st1 95 1 l h) fun _ m n =>
 (fin R n m (Value.tuple #[])))
 ((rdW Tryz.prog X0 w0 (nilN p0) fun o =>
 rdV Tryz.prog X0 w0 (fld 308 0 0 1 o) fun q =>
 rdV Tryz.prog X0 w0 (ld1 95 q) fun r =>
 eV Tryz.prog R X0 w0 true (bsS 95 5 1 1 #[(0, (Value.int IntKind.u8 0))]) fun s t v =>
 eV Tryz.prog R v t true (apS 95 5 1 1 95 r s) fun y z A =>
 rdW Tryz.prog A z (nilN p0) fun C =>
 rdV Tryz.prog A z (fld 308 0 0 1 C) fun D =>
 eU Tryz.prog R A z true (st1 95 1 D y) fun _ E F =>
 fin R F E (Value.tuple #[]))))
theorem ok_wire_Writer_Flag {R : Ending → World → Prop} {w0 : World} {p0 : Value} {p1 : Bool} (h : vc_wire_Writer_Flag R w0 (old w0) p0 p1) : Calls Tryz.prog 217 #[p0, (B p1)] w0 R :=
  calls_of_vc (pl := pl_wire_Writer_Flag) Tryz.func217 (by kernel_rfl) (by kernel_rfl) h
noncomputable def pl_wire_Writer_Float : Plan := ⟨23, [], [], [0, 1, 4, 7, 8], [], [4, 7]⟩
def vc_wire_Writer_Float (R : Ending → World → Prop) (w0 : World) (X0 : XS) (p0 : Value) (p1 : Nat) : Prop :=
 eC Tryz.prog R X0 w0 true 225 #[(.float .f64 p1)] fun a b c =>
 ((lp2 c b (I 0) a 7 4 fun d e g h i j =>
 rdV Tryz.prog j i (binOp .lss 3 g (I 8)) fun k =>
 (condW k
 ((rdW Tryz.prog j i (nilN p0) fun l =>
 rdV Tryz.prog j i (fld 308 0 0 1 l) fun m =>
 rdV Tryz.prog j i (ld1 95 m) fun n =>
 rdV Tryz.prog j i (cvI IntKind.u8 196 5 h) fun o =>
 eV Tryz.prog R j i true (bsS 95 5 1 1 #[(0, o)]) fun q r s =>
 eV Tryz.prog R s r true (apS 95 5 1 1 95 n q) fun t v y =>
 rdW Tryz.prog y v (nilN p0) fun z =>
 rdV Tryz.prog y v (fld 308 0 0 1 z) fun A =>
 eU Tryz.prog R y v true (st1 95 1 A t) fun _ C D =>
 (rdV Tryz.prog D C (binOp .shr 196 h (Value.int IntKind.u64 8)) fun E =>
 ((rdV Tryz.prog D C (binOp .add 3 g (I 1)) fun F =>
 nx2 d e F E C D)))))
 (fin R j i (Value.tuple #[])))))
theorem ok_wire_Writer_Float {R : Ending → World → Prop} {w0 : World} {p0 : Value} {p1 : Nat} (h : vc_wire_Writer_Float R w0 (old w0) p0 p1) : Calls Tryz.prog 219 #[p0, (.float .f64 p1)] w0 R :=
  calls_of_vc (pl := pl_wire_Writer_Float) Tryz.func219 (by kernel_rfl) (by kernel_rfl) h
noncomputable def pl_coder_Coder_Value : Plan := ⟨26, [], [], [0, 1, 8], [], []⟩
def vc_coder_Coder_Value (R : Ending → World → Prop) (w0 : World) (X0 : XS) (p0 p1 : Value) : Prop :=
 rdW Tryz.prog X0 w0 (nilN p0) fun a =>
 rdV Tryz.prog X0 w0 (fld 175 0 0 1 a) fun b =>
 rdV Tryz.prog X0 w0 (ld1 173 b) fun c =>
 rdV Tryz.prog X0 w0 (binS .neq 173 (.tmp 7) (.const (.pointer none)) c (.pointer none)) fun d =>
 (condW d
 (rdW Tryz.prog X0 w0 (nilN p0) fun e =>
 rdV Tryz.prog X0 w0 (fld 175 0 0 1 e) fun g =>
 rdV Tryz.prog X0 w0 (ld1 173 g) fun h =>
 rdW Tryz.prog X0 w0 (nilN p1) fun i =>
 rdV Tryz.prog X0 w0 (ldA 51 3 i) fun j =>
 eC Tryz.prog R X0 w0 true 296 #[h, j] fun _ k l =>
 (fin R l k (Value.tuple #[])))
 ((rdW Tryz.prog X0 w0 (nilN p0) fun m =>
 rdV Tryz.prog X0 w0 (fld 175 1 1 1 m) fun n =>
 rdV Tryz.prog X0 w0 (ld1 169 n) fun o =>
 eC Tryz.prog R X0 w0 true 297 #[o] fun q r s =>
 rdW Tryz.prog s r (nilN p1) fun t =>
 eU Tryz.prog R s r true (st1 51 3 t q) fun _ v y =>
 (eC Tryz.prog R y v true 208 #[p0] fun _ z A =>
 fin R A z (Value.tuple #[])))))
theorem ok_coder_Coder_Value {R : Ending → World → Prop} {w0 : World} {p0 p1 : Value} (h : vc_coder_Coder_Value R w0 (old w0) p0 p1) : Calls Tryz.prog 221 #[p0, p1] w0 R :=
  calls_of_vc (pl := pl_coder_Coder_Value) Tryz.func221 (by kernel_rfl) (by kernel_rfl) h
noncomputable def pl_recs_without : Plan := ⟨68, [(1, (Tryz.prog.cellsOf 117)), (2, (Tryz.prog.cellsOf 117))], [4, 10, 15, 20, 21, 22, 23, 24, 29, 30, 31, 35, 39, 40, 41, 46, 47, 48, 52, 58, 59, 60, 61, 65, 66], [0, 3, 5, 7, 11, 16, 25, 32, 36, 42, 49, 53, 62], [], []⟩
def vc_recs_without (R : Ending → World → Prop) (w0 : World) (X0 : XS) (p0_0 p0_1 p0_2 p0_3 p0_4 p0_5 p0_6 p0_7 p0_8 p0_9 : Int) (p0_10 : Bool) (p0_11 : Int) (p0_12 : Nat) (p0_13 p0_14 p0_15 p0_16 : Value) (p0_17 p0_18 : Int) (p0_19 p0_20 : Nat) (p0_21 p0_22 p0_23 p0_24 p0_25 p0_26 : Int) (p0_27 p0_28 : Value) : Prop :=
 (((jn (fun (a : Value) =>
 (chk (isA a) (un (subOf a 0 29) fun b =>
 un (Value.agg (Value.cells b)) fun c =>
 chk (List.length (Array.toList (Value.cells b)) == 29) (chk (List.all (Array.toList (Value.cells b)) one) ((un (subOf c 0 29) fun d =>
 chk (List.all [c] isA) (fin R X0 w0 (Value.tuple #[d, (B true)])))))))) fun e =>
 rdV Tryz.prog X0 w0 (binS .eql 3 (.tmp 5) (.const (I 1)) (I p0_0) (I 1)) fun g =>
 (condW g
 (rdV Tryz.prog X0 w0 (bld 46 #[(I 0), (I 0), (.float .f64 0), (.float .f64 0), (I 0), (I 0), (I 0), (I 0), (I 0), (I 0), (.slice none 0 0), (.slice none 0 0)] #[]) fun h =>
 un (Value.agg (List.toArray (setL [(I p0_0), (I p0_1), (I p0_2), (I p0_3), (I p0_4), (I p0_5), (I p0_6), (I p0_7), (I p0_8), (I p0_9), (B p0_10), (I p0_11), (.float .f64 p0_12), p0_13, p0_14, p0_15, p0_16, (I p0_17), (I p0_18), (.float .f64 p0_19), (.float .f64 p0_20), (I p0_21), (I p0_22), (I p0_23), (I p0_24), (I p0_25), (I p0_26), p0_27, p0_28] 17 (Array.toList (Value.cells h))))) fun i =>
 chk (List.length (Array.toList (Value.cells h)) == 12) (chk (List.all (Array.toList (Value.cells h)) one) (e i)))
 ((jn (fun (j : Value) =>
 condW j
 ((e (.agg #[(I p0_0), (I p0_1), (I p0_2), (I p0_3), (I p0_4), (I p0_5), (I p0_6), (I p0_7), (I p0_8), (I p0_9), (B p0_10), (I 0), (.float .f64 p0_12), p0_13, p0_14, p0_15, p0_16, (I p0_17), (I p0_18), (.float .f64 p0_19), (.float .f64 p0_20), (I p0_21), (I p0_22), (I p0_23), (I p0_24), (I p0_25), (I p0_26), p0_27, p0_28])))
 (rdV Tryz.prog X0 w0 (binS .eql 3 (.tmp 5) (.const (I 3)) (I p0_0) (I 3)) fun k =>
 (condW k
 (rdV Tryz.prog X0 w0 (bld 33 #[(I 0), (I 0), (I 0)] #[]) fun l =>
 rdV Tryz.prog X0 w0 (bld 35 #[(I 0), (I 0), (I 0)] #[]) fun m =>
 un (Value.agg (List.toArray (setL [(I p0_0), (I p0_1), (I p0_2), (I p0_3), (I p0_4), (I p0_5), (I p0_6), (I p0_7), (I p0_8), (I p0_9), (B p0_10), (I p0_11), (.float .f64 p0_12), p0_13, p0_14, p0_15, p0_16, (I p0_17), (I p0_18), (.float .f64 p0_19), (.float .f64 p0_20), (I p0_21), (I p0_22), (I p0_23), (I p0_24), (I p0_25), (I p0_26), p0_27, p0_28] 1 (Array.toList (Value.cells l))))) fun n =>
 chk (List.length (Array.toList (Value.cells l)) == 3) (chk (List.all (Array.toList (Value.cells l)) one) (un (Value.agg (List.toArray (setL (Array.toList (Value.cells n)) 4 (Array.toList (Value.cells m))))) fun o =>
 chk (List.length (Array.toList (Value.cells m)) == 3) (chk (List.all (Array.toList (Value.cells m)) one) (un (Value.agg (List.toArray (setL (Array.toList (Value.cells o)) 13 [(.slice none 0 0)]))) fun q =>
 un (Value.agg (List.toArray (setL (Array.toList (Value.cells q)) 14 [(.slice none 0 0)]))) fun r =>
 un (Value.agg (List.toArray (setL (Array.toList (Value.cells r)) 15 [(.slice none 0 0)]))) fun s =>
 (e s))))))
 (rdV Tryz.prog X0 w0 (binS .eql 3 (.tmp 5) (.const (I 4)) (I p0_0) (I 4)) fun t =>
 (condW t
 (rdV Tryz.prog X0 w0 (bld 33 #[(I 0), (I 0), (I 0)] #[]) fun v =>
 rdV Tryz.prog X0 w0 (bld 35 #[(I 0), (I 0), (I 0)] #[]) fun y =>
 un (Value.agg (List.toArray (setL [(I p0_0), (I p0_1), (I p0_2), (I p0_3), (I p0_4), (I p0_5), (I p0_6), (I p0_7), (I p0_8), (I p0_9), (B p0_10), (I p0_11), (.float .f64 p0_12), p0_13, p0_14, p0_15, p0_16, (I p0_17), (I p0_18), (.float .f64 p0_19), (.float .f64 p0_20), (I p0_21), (I p0_22), (I p0_23), (I p0_24), (I p0_25), (I p0_26), p0_27, p0_28] 1 (Array.toList (Value.cells v))))) fun z =>
 chk (List.length (Array.toList (Value.cells v)) == 3) (chk (List.all (Array.toList (Value.cells v)) one) (un (Value.agg (List.toArray (setL (Array.toList (Value.cells z)) 10 [(B false)]))) fun A =>
 un (Value.agg (List.toArray (setL (Array.toList (Value.cells A)) 4 (Array.toList (Value.cells y))))) fun C =>
 chk (List.length (Array.toList (Value.cells y)) == 3) (chk (List.all (Array.toList (Value.cells y)) one) (e C)))))
 (rdV Tryz.prog X0 w0 (binS .eql 3 (.tmp 5) (.const (I 5)) (I p0_0) (I 5)) fun D =>
 (condW D
 (rdV Tryz.prog X0 w0 (bld 35 #[(I 0), (I 0), (I 0)] #[]) fun E =>
 un (Value.agg (List.toArray (setL [(I p0_0), (I p0_1), (I p0_2), (I p0_3), (I p0_4), (I p0_5), (I p0_6), (I p0_7), (I p0_8), (I p0_9), (B p0_10), (I p0_11), (.float .f64 p0_12), p0_13, p0_14, p0_15, p0_16, (I p0_17), (I p0_18), (.float .f64 p0_19), (.float .f64 p0_20), (I p0_21), (I p0_22), (I p0_23), (I p0_24), (I p0_25), (I p0_26), p0_27, p0_28] 4 (Array.toList (Value.cells E))))) fun F =>
 chk (List.length (Array.toList (Value.cells E)) == 3) (chk (List.all (Array.toList (Value.cells E)) one) (e F)))
 (rdV Tryz.prog X0 w0 (binS .eql 3 (.tmp 5) (.const (I 6)) (I p0_0) (I 6)) fun G =>
 (condW G
 (rdV Tryz.prog X0 w0 (bld 35 #[(I 0), (I 0), (I 0)] #[]) fun H =>
 un (Value.agg (List.toArray (setL [(I p0_0), (I p0_1), (I p0_2), (I p0_3), (I p0_4), (I p0_5), (I p0_6), (I p0_7), (I p0_8), (I p0_9), (B p0_10), (I 0), (.float .f64 0), p0_13, p0_14, p0_15, p0_16, (I p0_17), (I p0_18), (.float .f64 p0_19), (.float .f64 p0_20), (I p0_21), (I p0_22), (I p0_23), (I p0_24), (I p0_25), (I p0_26), p0_27, p0_28] 4 (Array.toList (Value.cells H))))) fun L =>
 chk (List.length (Array.toList (Value.cells H)) == 3) (chk (List.all (Array.toList (Value.cells H)) one) (e L)))
 (rdV Tryz.prog X0 w0 (binS .eql 3 (.tmp 5) (.const (I 9)) (I p0_0) (I 9)) fun M =>
 (condW M
 (rdV Tryz.prog X0 w0 (bld 33 #[(I 0), (I 0), (I 0)] #[]) fun N =>
 rdV Tryz.prog X0 w0 (bld 35 #[(I 0), (I 0), (I 0)] #[]) fun O =>
 un (Value.agg (List.toArray (setL [(I p0_0), (I p0_1), (I p0_2), (I p0_3), (I p0_4), (I p0_5), (I p0_6), (I p0_7), (I p0_8), (I p0_9), (B p0_10), (I p0_11), (.float .f64 p0_12), p0_13, p0_14, p0_15, p0_16, (I p0_17), (I p0_18), (.float .f64 p0_19), (.float .f64 p0_20), (I p0_21), (I p0_22), (I p0_23), (I p0_24), (I p0_25), (I p0_26), p0_27, p0_28] 1 (Array.toList (Value.cells N))))) fun Q =>
 chk (List.length (Array.toList (Value.cells N)) == 3) (chk (List.all (Array.toList (Value.cells N)) one) (un (Value.agg (List.toArray (setL (Array.toList (Value.cells Q)) 4 (Array.toList (Value.cells O))))) fun S =>
 chk (List.length (Array.toList (Value.cells O)) == 3) (chk (List.all (Array.toList (Value.cells O)) one) (un (Value.agg (List.toArray (setL (Array.toList (Value.cells S)) 15 [(.slice none 0 0)]))) fun T =>
 (e T))))))
 (rdV Tryz.prog X0 w0 (binS .eql 3 (.tmp 5) (.const (I 10)) (I p0_0) (I 10)) fun U =>
 (condW U
 (rdV Tryz.prog X0 w0 (bld 33 #[(I 0), (I 0), (I 0)] #[]) fun V =>
 un (Value.agg (List.toArray (setL [(I p0_0), (I p0_1), (I p0_2), (I p0_3), (I p0_4), (I p0_5), (I p0_6), (I p0_7), (I p0_8), (I p0_9), (B p0_10), (I p0_11), (.float .f64 p0_12), p0_13, p0_14, p0_15, p0_16, (I p0_17), (I p0_18), (.float .f64 p0_19), (.float .f64 p0_20), (I p0_21), (I p0_22), (I p0_23), (I p0_24), (I p0_25), (I p0_26), p0_27, p0_28] 1 (Array.toList (Value.cells V))))) fun Y =>
 chk (List.length (Array.toList (Value.cells V)) == 3) (chk (List.all (Array.toList (Value.cells V)) one) (e Y)))
 (rdV Tryz.prog X0 w0 (binS .eql 3 (.tmp 5) (.const (I 11)) (I p0_0) (I 11)) fun Z =>
 (condW Z
 (rdV Tryz.prog X0 w0 (bld 35 #[(I 0), (I 0), (I 0)] #[]) fun a0 =>
 rdV Tryz.prog X0 w0 (bld 35 #[(I 0), (I 0), (I 0)] #[]) fun b0 =>
 rdV Tryz.prog X0 w0 (bld 33 #[(I 0), (I 0), (I 0)] #[]) fun c0 =>
 un (Value.agg (List.toArray (setL [(I p0_0), (I p0_1), (I p0_2), (I p0_3), (I p0_4), (I p0_5), (I p0_6), (I p0_7), (I p0_8), (I p0_9), (B p0_10), (I p0_11), (.float .f64 p0_12), p0_13, p0_14, p0_15, p0_16, (I p0_17), (I p0_18), (.float .f64 p0_19), (.float .f64 p0_20), (I p0_21), (I p0_22), (I p0_23), (I p0_24), (I p0_25), (I p0_26), p0_27, p0_28] 7 (Array.toList (Value.cells a0))))) fun d0 =>
 chk (List.length (Array.toList (Value.cells a0)) == 3) (chk (List.all (Array.toList (Value.cells a0)) one) (un (Value.agg (List.toArray (setL (Array.toList (Value.cells d0)) 4 (Array.toList (Value.cells b0))))) fun e0 =>
 chk (List.length (Array.toList (Value.cells b0)) == 3) (chk (List.all (Array.toList (Value.cells b0)) one) (un (Value.agg (List.toArray (setL (Array.toList (Value.cells e0)) 1 (Array.toList (Value.cells c0))))) fun g0 =>
 chk (List.length (Array.toList (Value.cells c0)) == 3) (chk (List.all (Array.toList (Value.cells c0)) one) (un (Value.agg (List.toArray (setL (Array.toList (Value.cells g0)) 14 [(.slice none 0 0)]))) fun h0 =>
 (e h0))))))))
 (rdV Tryz.prog X0 w0 (binS .eql 3 (.tmp 5) (.const (I 12)) (I p0_0) (I 12)) fun i0 =>
 (condW i0
 (rdV Tryz.prog X0 w0 (bld 35 #[(I 0), (I 0), (I 0)] #[]) fun j0 =>
 un (Value.agg (List.toArray (setL [(I p0_0), (I p0_1), (I p0_2), (I p0_3), (I p0_4), (I p0_5), (I p0_6), (I p0_7), (I p0_8), (I p0_9), (B p0_10), (I p0_11), (.float .f64 p0_12), p0_13, p0_14, p0_15, p0_16, (I p0_17), (I p0_18), (.float .f64 p0_19), (.float .f64 p0_20), (I p0_21), (I p0_22), (I p0_23), (I p0_24), (I p0_25), (I p0_26), p0_27, p0_28] 4 (Array.toList (Value.cells j0))))) fun k0 =>
 chk (List.length (Array.toList (Value.cells j0)) == 3) (chk (List.all (Array.toList (Value.cells j0)) one) (un (Value.agg (List.toArray (setL (Array.toList (Value.cells k0)) 16 [(.slice none 0 0)]))) fun l0 =>
 (e l0))))
 (chk (List.all [(I p0_0), (I p0_1), (I p0_2), (I p0_3), (I p0_4), (I p0_5), (I p0_6), (I p0_7), (I p0_8), (I p0_9), (B p0_10), (I p0_11), (.float .f64 p0_12), p0_13, p0_14, p0_15, p0_16, (I p0_17), (I p0_18), (.float .f64 p0_19), (.float .f64 p0_20), (I p0_21), (I p0_22), (I p0_23), (I p0_24), (I p0_25), (I p0_26), p0_27, p0_28] one) ((fin R X0 w0 (Value.tuple #[(.agg #[(I p0_0), (I p0_1), (I p0_2), (I p0_3), (I p0_4), (I p0_5), (I p0_6), (I p0_7), (I p0_8), (I p0_9), (B p0_10), (I p0_11), (.float .f64 p0_12), p0_13, p0_14, p0_15, p0_16, (I p0_17), (I p0_18), (.float .f64 p0_19), (.float .f64 p0_20), (I p0_21), (I p0_22), (I p0_23), (I p0_24), (I p0_25), (I p0_26), p0_27, p0_28]), (B false)]))))))))))))))))))))) fun m0 =>
 rdV Tryz.prog X0 w0 (binS .eql 3 (.tmp 5) (.const (I 2)) (I p0_0) (I 2)) fun n0 =>
 (condW n0
 (m0 n0)
 (rdV Tryz.prog X0 w0 (binS .eql 3 (.tmp 5) (.const (I 7)) (I p0_0) (I 7)) fun o0 =>
 (condW o0
 (m0 o0)
 (rdV Tryz.prog X0 w0 (binS .eql 3 (.tmp 5) (.const (I 8)) (I p0_0) (I 8)) fun q0 =>
 (m0 q0)))))))))))
theorem ok_recs_without {R : Ending → World → Prop} {w0 : World} {p0_0 p0_1 p0_2 p0_3 p0_4 p0_5 p0_6 p0_7 p0_8 p0_9 : Int} {p0_10 : Bool} {p0_11 : Int} {p0_12 : Nat} {p0_13 p0_14 p0_15 p0_16 : Value} {p0_17 p0_18 : Int} {p0_19 p0_20 : Nat} {p0_21 p0_22 p0_23 p0_24 p0_25 p0_26 : Int} {p0_27 p0_28 : Value} (h : vc_recs_without R w0 (old w0) p0_0 p0_1 p0_2 p0_3 p0_4 p0_5 p0_6 p0_7 p0_8 p0_9 p0_10 p0_11 p0_12 p0_13 p0_14 p0_15 p0_16 p0_17 p0_18 p0_19 p0_20 p0_21 p0_22 p0_23 p0_24 p0_25 p0_26 p0_27 p0_28) : Calls Tryz.prog 222 #[(.agg #[(I p0_0), (I p0_1), (I p0_2), (I p0_3), (I p0_4), (I p0_5), (I p0_6), (I p0_7), (I p0_8), (I p0_9), (B p0_10), (I p0_11), (.float .f64 p0_12), p0_13, p0_14, p0_15, p0_16, (I p0_17), (I p0_18), (.float .f64 p0_19), (.float .f64 p0_20), (I p0_21), (I p0_22), (I p0_23), (I p0_24), (I p0_25), (I p0_26), p0_27, p0_28])] w0 R :=
  calls_of_vc (pl := pl_recs_without) Tryz.func222 (by kernel_rfl) (by kernel_rfl) h
noncomputable def pl_recs_zero : Plan := ⟨64, [(1, (Tryz.prog.cellsOf 117))], [3, 8, 14, 20, 25, 30, 36, 42, 48, 54, 60], [0, 2], [7, 9, 10, 11, 13, 15, 16, 17, 19, 21, 22, 24, 26, 27, 29, 31, 32, 33, 35, 37, 38, 39, 41, 43, 44, 45, 47, 49, 50, 51, 53, 55, 56, 57, 59, 61, 62], []⟩
def vc_recs_zero (R : Ending → World → Prop) (w0 : World) (X0 : XS) (_p0_0 p0_1 p0_2 p0_3 p0_4 p0_5 p0_6 p0_7 p0_8 p0_9 : Int) (p0_10 : Bool) (p0_11 : Int) (p0_12 : Nat) (p0_13 p0_14 p0_15 p0_16 : Value) (p0_17 p0_18 : Int) (p0_19 p0_20 : Nat) (p0_21 p0_22 p0_23 p0_24 p0_25 p0_26 : Int) (p0_27 p0_28 : Value) : Prop :=
 (rdV Tryz.prog X0 w0 (bld 33 #[(I 0), (I 0), (I 0)] #[]) fun a =>
 rdV Tryz.prog X0 w0 (binS .eql 33 (.tmp 4) (.tmp 5) (.agg #[(I p0_1), (I p0_2), (I p0_3)]) a) fun b =>
 un (gSel b true (.agg #[(I p0_4), (I p0_5), (I p0_6)])) fun c =>
 grdW Tryz.prog X0 w0 b true (vS (bld 35 #[(I 0), (I 0), (I 0)] #[])) fun d =>
 grdW Tryz.prog X0 w0 b true (vS (binS .eql 35 (.tmp 9) (.tmp 10) c d)) fun e =>
 rdW Tryz.prog X0 w0 (pickN b e (B false)) fun g =>
 un (gSel g true (.agg #[(I p0_7), (I p0_8), (I p0_9)])) fun h =>
 grdW Tryz.prog X0 w0 g true (vS (bld 35 #[(I 0), (I 0), (I 0)] #[])) fun i =>
 grdW Tryz.prog X0 w0 g true (vS (binS .eql 35 (.tmp 15) (.tmp 16) h i)) fun j =>
 rdW Tryz.prog X0 w0 (pickN g j (B false)) fun k =>
 un (gSel k true (B p0_10)) fun l =>
 grdW Tryz.prog X0 w0 k true (vS (Op.unary UnOp.not l)) fun m =>
 rdW Tryz.prog X0 w0 (pickN k m (B false)) fun n =>
 un (gSel n true (I p0_11)) fun o =>
 grdW Tryz.prog X0 w0 n true (vS (binS .eql 3 (.tmp 26) (.const (I 0)) o (I 0))) fun q =>
 rdW Tryz.prog X0 w0 (pickN n q (B false)) fun r =>
 un (gSel r true (.float .f64 p0_12)) fun s =>
 jn (fun (t : Value) (v : World) (y : XS) =>
 grdW Tryz.prog y v r true (vS (binS .eql 196 (.tmp 32) (.const (Value.int IntKind.u64 0)) t (Value.int IntKind.u64 0))) fun z =>
 rdW Tryz.prog y v (pickN r z (B false)) fun A =>
 un (gSel A true p0_13) fun C =>
 grdW Tryz.prog y v A true (vS (lnS 36 3 C)) fun D =>
 grdW Tryz.prog y v A true (vS (binS .eql 3 (.tmp 38) (.const (I 0)) D (I 0))) fun E =>
 rdW Tryz.prog y v (pickN A E (B false)) fun F =>
 un (gSel F true p0_14) fun G =>
 grdW Tryz.prog y v F true (vS (lnS 23 3 G)) fun H =>
 grdW Tryz.prog y v F true (vS (binS .eql 3 (.tmp 44) (.const (I 0)) H (I 0))) fun L =>
 rdW Tryz.prog y v (pickN F L (B false)) fun M =>
 un (gSel M true p0_15) fun N =>
 grdW Tryz.prog y v M true (vS (lnS 22 3 N)) fun O =>
 grdW Tryz.prog y v M true (vS (binS .eql 3 (.tmp 50) (.const (I 0)) O (I 0))) fun Q =>
 rdW Tryz.prog y v (pickN M Q (B false)) fun S =>
 un (gSel S true p0_16) fun T =>
 grdW Tryz.prog y v S true (vS (lnS 54 3 T)) fun U =>
 grdW Tryz.prog y v S true (vS (binS .eql 3 (.tmp 56) (.const (I 0)) U (I 0))) fun V =>
 rdW Tryz.prog y v (pickN S V (B false)) fun Y =>
 un (gSel Y true (.agg #[(I p0_17), (I p0_18), (.float .f64 p0_19), (.float .f64 p0_20), (I p0_21), (I p0_22), (I p0_23), (I p0_24), (I p0_25), (I p0_26), p0_27, p0_28])) fun Z =>
 jn (fun (a0 : Value) (b0 : World) (c0 : XS) =>
 rdW Tryz.prog c0 b0 (pickN Y a0 (B false)) fun d0 =>
 (fin R c0 b0 d0)) fun e0 =>
 (gE Y true (eC Tryz.prog R y v true 298 #[Z] e0) (e0 undef v y))) fun g0 =>
 (gE r true (eC Tryz.prog R X0 w0 true 111 #[s] g0) (g0 undef w0 X0)))
theorem ok_recs_zero {R : Ending → World → Prop} {w0 : World} {p0_0 p0_1 p0_2 p0_3 p0_4 p0_5 p0_6 p0_7 p0_8 p0_9 : Int} {p0_10 : Bool} {p0_11 : Int} {p0_12 : Nat} {p0_13 p0_14 p0_15 p0_16 : Value} {p0_17 p0_18 : Int} {p0_19 p0_20 : Nat} {p0_21 p0_22 p0_23 p0_24 p0_25 p0_26 : Int} {p0_27 p0_28 : Value} (h : vc_recs_zero R w0 (old w0) p0_0 p0_1 p0_2 p0_3 p0_4 p0_5 p0_6 p0_7 p0_8 p0_9 p0_10 p0_11 p0_12 p0_13 p0_14 p0_15 p0_16 p0_17 p0_18 p0_19 p0_20 p0_21 p0_22 p0_23 p0_24 p0_25 p0_26 p0_27 p0_28) : Calls Tryz.prog 223 #[(.agg #[(I p0_0), (I p0_1), (I p0_2), (I p0_3), (I p0_4), (I p0_5), (I p0_6), (I p0_7), (I p0_8), (I p0_9), (B p0_10), (I p0_11), (.float .f64 p0_12), p0_13, p0_14, p0_15, p0_16, (I p0_17), (I p0_18), (.float .f64 p0_19), (.float .f64 p0_20), (I p0_21), (I p0_22), (I p0_23), (I p0_24), (I p0_25), (I p0_26), p0_27, p0_28])] w0 R :=
  calls_of_vc (pl := pl_recs_zero) Tryz.func223 (by kernel_rfl) (by kernel_rfl) h
noncomputable def pl_recs_fields : Plan := ⟨134, [(1, (Tryz.prog.cellsOf 117))], [5, 9, 14, 18, 24, 26, 28, 30, 36, 42, 46, 48, 54, 60, 76, 81, 87, 92, 97, 101, 106, 112, 117, 119, 121, 123, 126, 130], [0, 2, 3, 4, 6, 7, 12, 22, 40, 52, 57, 85, 90, 95, 110, 115], [17, 19, 20, 35, 37, 38, 45, 47, 49, 50, 67, 68, 69, 71, 72, 73, 75, 77, 78, 80, 82, 83, 100, 102, 103, 105, 107, 108, 129, 131, 132], []⟩
def vc_recs_fields (R : Ending → World → Prop) (w0 : World) (X0 : XS) (p0_0 p0_1 p0_2 p0_3 p0_4 p0_5 p0_6 p0_7 p0_8 p0_9 : Int) (p0_10 : Bool) (p0_11 : Int) (p0_12 : Nat) (p0_13 p0_14 p0_15 p0_16 : Value) (p0_17 p0_18 : Int) (p0_19 p0_20 : Nat) (p0_21 p0_22 p0_23 p0_24 p0_25 p0_26 : Int) (p0_27 p0_28 : Value) : Prop :=
 ((rdV Tryz.prog X0 w0 (binS .eql 3 (.tmp 6) (.const (I 1)) (I p0_0) (I 1)) fun a =>
 (condW a
 (eC Tryz.prog R X0 w0 true 167 #[(.agg #[(I p0_17), (I p0_18), (.float .f64 p0_19), (.float .f64 p0_20), (I p0_21), (I p0_22), (I p0_23), (I p0_24), (I p0_25), (I p0_26), p0_27, p0_28])] fun b c d =>
 (fin R d c b))
 (rdV Tryz.prog X0 w0 (binS .eql 3 (.tmp 6) (.const (I 2)) (I p0_0) (I 2)) fun e =>
 (condW e
 (rdV Tryz.prog X0 w0 (binOp .geq 3 (I p0_11) (I 0)) fun g =>
 un (gSel g true (I p0_11)) fun h =>
 grdW Tryz.prog X0 w0 g true (vS (binOp .leq 3 h (I 281474976710656))) fun i =>
 rdW Tryz.prog X0 w0 (pickN g i (B false)) fun j =>
 (fin R X0 w0 j))
 (rdV Tryz.prog X0 w0 (binS .eql 3 (.tmp 6) (.const (I 3)) (I p0_0) (I 3)) fun k =>
 (condW k
 (rdV Tryz.prog X0 w0 (bld 229 #[(I p0_1), (I p0_2), (I p0_3), (I p0_4), (I p0_5), (I p0_6), p0_13, p0_14] #[(0, (.agg #[(I p0_1), (I p0_2), (I p0_3)])), (1, (.agg #[(I p0_4), (I p0_5), (I p0_6)])), (2, p0_13), (3, p0_14)]) fun l =>
 eC Tryz.prog R X0 w0 true 250 #[l] fun m n o =>
 rdV Tryz.prog o n (binS .eql 29 (.tmp 33) (.const (I 0)) m (I 0)) fun q =>
 un (gSel q true p0_15) fun r =>
 jn (fun (s : Value) (t : World) (v : XS) =>
 rdW Tryz.prog v t (pickN q s (B false)) fun y =>
 (fin R v t y)) fun z =>
 (gE q true (eC Tryz.prog R o n true 243 #[r] z) (z undef n o)))
 (rdV Tryz.prog X0 w0 (binS .eql 3 (.tmp 6) (.const (I 4)) (I p0_0) (I 4)) fun A =>
 (condW A
 (eC Tryz.prog R X0 w0 true 238 #[(.agg #[(I p0_1), (I p0_2), (I p0_3)])] fun C D E =>
 un (gSel C true (B p0_10)) fun F =>
 un (gSel C true (.agg #[(I p0_4), (I p0_5), (I p0_6)])) fun G =>
 jn (fun (H : Value) (L : World) (M : XS) =>
 rdW Tryz.prog M L (pickN C H (B false)) fun N =>
 (fin R M L N)) fun O =>
 (gE C true (eC Tryz.prog R E D true 299 #[F, G] O) (O undef D E)))
 (rdV Tryz.prog X0 w0 (binS .eql 3 (.tmp 6) (.const (I 5)) (I p0_0) (I 5)) fun Q =>
 (condW Q
 (eC Tryz.prog R X0 w0 true 165 #[(.agg #[(I p0_4), (I p0_5), (I p0_6)])] fun S T U =>
 (fin R U T S))
 (rdV Tryz.prog X0 w0 (binS .eql 3 (.tmp 6) (.const (I 6)) (I p0_0) (I 6)) fun V =>
 (condW V
 (eC Tryz.prog R X0 w0 true 300 #[(.float .f64 p0_12)] fun Y Z a0 =>
 rdV Tryz.prog a0 Z (Instr.extract Y 0) fun b0 =>
 rdV Tryz.prog a0 Z (Instr.extract Y 1) fun c0 =>
 (rdV Tryz.prog a0 Z (binS .eql 29 (.tmp 65) (.const (I 0)) c0 (I 0)) fun d0 =>
 un (gSel d0 true b0) fun e0 =>
 grdW Tryz.prog a0 Z d0 true (vS (binOp .gtr 40 e0 (.float .f64 0))) fun g0 =>
 rdW Tryz.prog a0 Z (pickN d0 g0 (B false)) fun h0 =>
 un (gSel h0 true b0) fun i0 =>
 grdW Tryz.prog a0 Z h0 true (vS (binOp .lss 40 i0 (.float .f64 4607182418800017408))) fun j0 =>
 rdW Tryz.prog a0 Z (pickN h0 j0 (B false)) fun k0 =>
 un (gSel k0 true (I p0_11)) fun l0 =>
 jn (fun (m0 : Value) (n0 : World) (o0 : XS) =>
 rdW Tryz.prog o0 n0 (pickN k0 m0 (B false)) fun q0 =>
 un (gSel q0 true (.agg #[(I p0_4), (I p0_5), (I p0_6)])) fun r0 =>
 jn (fun (s0 : Value) (t0 : World) (v0 : XS) =>
 rdW Tryz.prog v0 t0 (pickN q0 s0 (B false)) fun y0 =>
 (fin R v0 t0 y0)) fun z0 =>
 (gE q0 true (eC Tryz.prog R o0 n0 true 165 #[r0] z0) (z0 undef n0 o0))) fun A0 =>
 (gE k0 true (eC Tryz.prog R a0 Z true 301 #[l0] A0) (A0 undef Z a0))))
 (rdV Tryz.prog X0 w0 (binS .eql 3 (.tmp 6) (.const (I 7)) (I p0_0) (I 7)) fun C0 =>
 (condW C0
 (eC Tryz.prog R X0 w0 true 301 #[(I p0_11)] fun D0 E0 F0 =>
 (fin R F0 E0 D0))
 (rdV Tryz.prog X0 w0 (binS .eql 3 (.tmp 6) (.const (I 8)) (I p0_0) (I 8)) fun G0 =>
 (condW G0
 (rdV Tryz.prog X0 w0 (binOp .geq 3 (I p0_11) (I 1)) fun H0 =>
 (fin R X0 w0 H0))
 (rdV Tryz.prog X0 w0 (binS .eql 3 (.tmp 6) (.const (I 9)) (I p0_0) (I 9)) fun L0 =>
 (condW L0
 (eC Tryz.prog R X0 w0 true 238 #[(.agg #[(I p0_1), (I p0_2), (I p0_3)])] fun M0 N0 O0 =>
 un (gSel M0 true (.agg #[(I p0_4), (I p0_5), (I p0_6)])) fun Q0 =>
 jn (fun (S0 : Value) (T0 : World) (U0 : XS) =>
 rdW Tryz.prog U0 T0 (pickN M0 S0 (B false)) fun V0 =>
 un (gSel V0 true p0_15) fun Y0 =>
 jn (fun (Z0 : Value) (a1 : World) (b1 : XS) =>
 rdW Tryz.prog b1 a1 (pickN V0 Z0 (B false)) fun c1 =>
 (fin R b1 a1 c1)) fun d1 =>
 (gE V0 true (eC Tryz.prog R U0 T0 true 243 #[Y0] d1) (d1 undef T0 U0))) fun e1 =>
 (gE M0 true (eC Tryz.prog R O0 N0 true 302 #[Q0] e1) (e1 undef N0 O0)))
 (rdV Tryz.prog X0 w0 (binS .eql 3 (.tmp 6) (.const (I 10)) (I p0_0) (I 10)) fun g1 =>
 (condW g1
 (eC Tryz.prog R X0 w0 true 238 #[(.agg #[(I p0_1), (I p0_2), (I p0_3)])] fun h1 i1 j1 =>
 (fin R j1 i1 h1))
 (rdV Tryz.prog X0 w0 (binS .eql 3 (.tmp 6) (.const (I 11)) (I p0_0) (I 11)) fun k1 =>
 (condW k1
 (eC Tryz.prog R X0 w0 true 168 #[(.agg #[(I p0_7), (I p0_8), (I p0_9)]), (.agg #[(I p0_4), (I p0_5), (I p0_6)]), (.agg #[(I p0_1), (I p0_2), (I p0_3)]), p0_14] fun l1 m1 n1 =>
 (fin R n1 m1 l1))
 (((eC Tryz.prog R X0 w0 true 165 #[(.agg #[(I p0_4), (I p0_5), (I p0_6)])] fun o1 q1 r1 =>
 un (gSel o1 true p0_16) fun s1 =>
 jn (fun (t1 : Value) (v1 : World) (y1 : XS) =>
 rdW Tryz.prog y1 v1 (pickN o1 t1 (B false)) fun z1 =>
 (fin R y1 v1 z1)) fun A1 =>
 (gE o1 true (eC Tryz.prog R r1 q1 true 303 #[s1] A1) (A1 undef q1 r1))))))))))))))))))))))))))))
theorem ok_recs_fields {R : Ending → World → Prop} {w0 : World} {p0_0 p0_1 p0_2 p0_3 p0_4 p0_5 p0_6 p0_7 p0_8 p0_9 : Int} {p0_10 : Bool} {p0_11 : Int} {p0_12 : Nat} {p0_13 p0_14 p0_15 p0_16 : Value} {p0_17 p0_18 : Int} {p0_19 p0_20 : Nat} {p0_21 p0_22 p0_23 p0_24 p0_25 p0_26 : Int} {p0_27 p0_28 : Value} (h : vc_recs_fields R w0 (old w0) p0_0 p0_1 p0_2 p0_3 p0_4 p0_5 p0_6 p0_7 p0_8 p0_9 p0_10 p0_11 p0_12 p0_13 p0_14 p0_15 p0_16 p0_17 p0_18 p0_19 p0_20 p0_21 p0_22 p0_23 p0_24 p0_25 p0_26 p0_27 p0_28) : Calls Tryz.prog 224 #[(.agg #[(I p0_0), (I p0_1), (I p0_2), (I p0_3), (I p0_4), (I p0_5), (I p0_6), (I p0_7), (I p0_8), (I p0_9), (B p0_10), (I p0_11), (.float .f64 p0_12), p0_13, p0_14, p0_15, p0_16, (I p0_17), (I p0_18), (.float .f64 p0_19), (.float .f64 p0_20), (I p0_21), (I p0_22), (I p0_23), (I p0_24), (I p0_25), (I p0_26), p0_27, p0_28])] w0 R :=
  calls_of_vc (pl := pl_recs_fields) Tryz.func224 (by kernel_rfl) (by kernel_rfl) h
noncomputable def pl_num_Bits : Plan := ⟨6, [], [], [0, 2], [], []⟩
def vc_num_Bits (R : Ending → World → Prop) (w0 : World) (X0 : XS) (p0 : Nat) : Prop :=
 (eC Tryz.prog R X0 w0 true 304 #[(.float .f64 p0)] fun a b c =>
 eC Tryz.prog R c b true 111 #[a] fun d e g =>
 (fin R g e d))
theorem ok_num_Bits {R : Ending → World → Prop} {w0 : World} {p0 : Nat} (h : vc_num_Bits R w0 (old w0) p0) : Calls Tryz.prog 225 #[(.float .f64 p0)] w0 R :=
  calls_of_vc (pl := pl_num_Bits) Tryz.func225 (by kernel_rfl) (by kernel_rfl) h
noncomputable def pl_mvcc_TxnMay : Plan := ⟨21, [(1, (Tryz.prog.cellsOf 33))], [3, 7, 12, 17], [0, 2], [6, 8, 9, 11, 13, 14, 16, 18, 19], []⟩
def vc_mvcc_TxnMay (R : Ending → World → Prop) (w0 : World) (X0 : XS) (p0_0 p0_1 p0_2 : Int) : Prop :=
 (rdV Tryz.prog X0 w0 (binOp .geq 3 (I p0_0) (I 1)) fun a =>
 un (gSel a true (I p0_0)) fun b =>
 grdW Tryz.prog X0 w0 a true (vS (binOp .leq 3 b (I 2))) fun c =>
 rdW Tryz.prog X0 w0 (pickN a c (B false)) fun d =>
 un (gSel d true (I p0_1)) fun e =>
 grdW Tryz.prog X0 w0 d true (vS (binOp .geq 3 e (I 1))) fun g =>
 rdW Tryz.prog X0 w0 (pickN d g (B false)) fun h =>
 un (gSel h true (I p0_2)) fun i =>
 grdW Tryz.prog X0 w0 h true (vS (binOp .geq 3 i (I 1))) fun j =>
 rdW Tryz.prog X0 w0 (pickN h j (B false)) fun k =>
 (fin R X0 w0 k))
theorem ok_mvcc_TxnMay {R : Ending → World → Prop} {w0 : World} {p0_0 p0_1 p0_2 : Int} (h : vc_mvcc_TxnMay R w0 (old w0) p0_0 p0_1 p0_2) : Calls Tryz.prog 238 #[(.agg #[(I p0_0), (I p0_1), (I p0_2)])] w0 R :=
  calls_of_vc (pl := pl_mvcc_TxnMay) Tryz.func238 (by kernel_rfl) (by kernel_rfl) h
noncomputable def pl_msgs_rise : Plan := ⟨32, [], [], [0, 2, 3, 4, 5, 6, 7, 8, 27], [15, 16, 17, 18, 19, 20, 21, 22, 23, 24, 25, 26], [7]⟩
def vc_msgs_rise (R : Ending → World → Prop) (w0 : World) (X0 : XS) (p0 : Value) : Prop :=
 (rdV Tryz.prog X0 w0 (lnS 36 3 p0) fun a =>
 (lp1 X0 w0 (I 0) 7 fun b c d e g =>
 rdV Tryz.prog g e (binOp .lss 3 d a) fun h =>
 (condW h
 ((rdV Tryz.prog g e (ixS 36 1 p0 d) fun i =>
 rdV Tryz.prog g e (ld1 9 i) fun j =>
 (eC Tryz.prog R g e true 312 #[j] fun k l m =>
 rdV Tryz.prog m l (Op.unary UnOp.not k) fun n =>
 un (gSel n false d) fun o =>
 grdW Tryz.prog m l n false (vS (binOp .gtr 3 o (I 0))) fun q =>
 un (gSel n false q) fun r =>
 un (gSel r true p0) fun s =>
 un (gSel r true d) fun t =>
 grdW Tryz.prog m l r true (vS (binOp .sub 3 t (I 1))) fun v =>
 grdW Tryz.prog m l r true (vS (ixS 36 1 s v)) fun y =>
 grdW Tryz.prog m l r true (vS (ld1 9 y)) fun z =>
 un (gSel r true j) fun A =>
 grdW Tryz.prog m l r true (vS (binOp .geq 9 z A)) fun C =>
 grdW Tryz.prog m l n false (pickN r C (B false)) fun D =>
 rdW Tryz.prog m l (pickN n (B true) D) fun E =>
 (condW E
 (fin R m l (B false))
 (((rdV Tryz.prog m l (binOp .add 3 d (I 1)) fun F =>
 nx1 b c F l m)))))))
 (((rdV Tryz.prog g e (lnS 36 3 p0) fun G =>
 rdV Tryz.prog g e (binOp .leq 3 G (I 16)) fun H =>
 (fin R g e H)))))))
theorem ok_msgs_rise {R : Ending → World → Prop} {w0 : World} {p0 : Value} (h : vc_msgs_rise R w0 (old w0) p0) : Calls Tryz.prog 239 #[p0] w0 R :=
  calls_of_vc (pl := pl_msgs_rise) Tryz.func239 (by kernel_rfl) (by kernel_rfl) h
noncomputable def pl_msgs_code : Plan := ⟨25, [], [], [0, 1, 2, 6, 8], [10, 11, 12, 13, 17, 18, 19, 21, 22, 23], []⟩
def vc_msgs_code (R : Ending → World → Prop) (w0 : World) (X0 : XS) (p0 : Int) (p1 : Bool) (p2 : Value) : Prop :=
 (rdV Tryz.prog X0 w0 (binS .eql 29 (.tmp 7) (.const (I 0)) (I p0) (I 0)) fun a =>
 (condW a
 (un (gSel (B p1) true p2) fun b =>
 grdW Tryz.prog X0 w0 (B p1) true (vS (lnS 38 3 b)) fun c =>
 grdW Tryz.prog X0 w0 (B p1) true (vS (binS .eql 3 (.tmp 12) (.const (I 0)) c (I 0))) fun d =>
 rdW Tryz.prog X0 w0 (pickN (B p1) d (B false)) fun e =>
 (fin R X0 w0 e))
 ((rdV Tryz.prog X0 w0 (binOp .gtr 29 (I p0) (I 0)) fun g =>
 un (gSel g true (I p0)) fun h =>
 grdW Tryz.prog X0 w0 g true (vS (binOp .leq 29 h (I 25))) fun i =>
 rdW Tryz.prog X0 w0 (pickN g i (B false)) fun j =>
 un (gSel j true p2) fun k =>
 jn (fun (l : Value) (m : World) (n : XS) =>
 rdW Tryz.prog n m (pickN j l (B false)) fun o =>
 (fin R n m o)) fun q =>
 (gE j true (eC Tryz.prog R X0 w0 true 313 #[k] q) (q undef w0 X0))))))
theorem ok_msgs_code {R : Ending → World → Prop} {w0 : World} {p0 : Int} {p1 : Bool} {p2 : Value} (h : vc_msgs_code R w0 (old w0) p0 p1 p2) : Calls Tryz.prog 240 #[(I p0), (B p1), p2] w0 R :=
  calls_of_vc (pl := pl_msgs_code) Tryz.func240 (by kernel_rfl) (by kernel_rfl) h
noncomputable def pl_msgs_seen : Plan := ⟨42, [(5, (Tryz.prog.cellsOf 266))], [13, 17, 22, 28, 33, 34], [0, 2, 3, 6, 7, 8, 9, 38], [21, 23, 24, 25, 27, 29, 30, 31, 32, 35, 36, 37], [3, 8]⟩
def vc_msgs_seen (R : Ending → World → Prop) (w0 : World) (X0 : XS) (p0 : Value) : Prop :=
 ((rdV Tryz.prog X0 w0 (lnS 37 3 p0) fun a =>
 (lp2 X0 w0 (I 0) (.slice none 0 0) 8 3 fun b c d e g h =>
 rdV Tryz.prog h g (binOp .lss 3 d a) fun i =>
 (condW i
 ((rdV Tryz.prog h g (ixS 37 7 p0 d) fun j =>
 rdV Tryz.prog h g (ldA 266 7 j) fun k =>
 un (Value.agg (Value.cells k)) fun l =>
 chk (List.length (Array.toList (Value.cells k)) == 7) (chk (List.all (Array.toList (Value.cells k)) one) ((chk (isA l) (un (cellOf l 0) fun m =>
 eV Tryz.prog R h g true (bsS 36 9 1 1 #[(0, m)]) fun n o q =>
 eV Tryz.prog R q o true (apS 36 9 1 16 36 e n) fun r s t =>
 (chk (isA l) (un (subOf l 4 3) fun v =>
 eC Tryz.prog R t s true 165 #[v] fun y z A =>
 rdV Tryz.prog A z (Op.unary UnOp.not y) fun C =>
 un (subOf l 1 3) fun D =>
 un (gSel C false D) fun E =>
 jn (fun (F : Value) (G : World) (H : XS) =>
 grdW Tryz.prog H G C false (vS (Op.unary UnOp.not F)) fun L =>
 rdW Tryz.prog H G (pickN C (B true) L) fun M =>
 un (gSel M false v) fun N =>
 grdW Tryz.prog H G M false (vS (bld 35 #[(I 0), (I 0), (I 0)] #[])) fun O =>
 grdW Tryz.prog H G M false (vS (binS .eql 35 (.tmp 29) (.tmp 30) N O)) fun Q =>
 un (gSel M false Q) fun S =>
 un (cellOf l 1) fun T =>
 un (gSel S true T) fun U =>
 grdW Tryz.prog H G S true (vS (binS .neq 3 (.tmp 35) (.const (I 0)) U (I 0))) fun V =>
 grdW Tryz.prog H G M false (pickN S V (B false)) fun Y =>
 rdW Tryz.prog H G (pickN M (B true) Y) fun Z =>
 (condW Z
 (fin R H G (B false))
 (((rdV Tryz.prog H G (binOp .add 3 d (I 1)) fun a0 =>
 nx2 b c a0 r G H))))) fun b0 =>
 (gE C false (eC Tryz.prog R A z true 158 #[E] b0) (b0 undef z A))))))))))
 (eC Tryz.prog R h g true 239 #[e] fun c0 d0 e0 =>
 (fin R e0 d0 c0))))))
theorem ok_msgs_seen {R : Ending → World → Prop} {w0 : World} {p0 : Value} (h : vc_msgs_seen R w0 (old w0) p0) : Calls Tryz.prog 241 #[p0] w0 R :=
  calls_of_vc (pl := pl_msgs_seen) Tryz.func241 (by kernel_rfl) (by kernel_rfl) h
noncomputable def pl_msgs_written : Plan := ⟨24, [(5, (Tryz.prog.cellsOf 53))], [13, 17], [0, 2, 3, 6, 7, 8, 9, 20], [], [3, 8]⟩
def vc_msgs_written (R : Ending → World → Prop) (w0 : World) (X0 : XS) (p0 : Value) : Prop :=
 ((rdV Tryz.prog X0 w0 (lnS 23 3 p0) fun a =>
 (lp2 X0 w0 (I 0) (.slice none 0 0) 8 3 fun b c d e g h =>
 rdV Tryz.prog h g (binOp .lss 3 d a) fun i =>
 (condW i
 ((rdV Tryz.prog h g (ixS 23 4 p0 d) fun j =>
 rdV Tryz.prog h g (ldA 53 4 j) fun k =>
 un (Value.agg (Value.cells k)) fun l =>
 chk (List.length (Array.toList (Value.cells k)) == 4) (chk (List.all (Array.toList (Value.cells k)) one) ((chk (isA l) (un (cellOf l 0) fun m =>
 eV Tryz.prog R h g true (bsS 36 9 1 1 #[(0, m)]) fun n o q =>
 eV Tryz.prog R q o true (apS 36 9 1 16 36 e n) fun r s t =>
 (chk (isA l) (un (subOf l 1 3) fun v =>
 eC Tryz.prog R t s true 158 #[v] fun y z A =>
 rdV Tryz.prog A z (Op.unary UnOp.not y) fun C =>
 (condW C
 (fin R A z (B false))
 (((rdV Tryz.prog A z (binOp .add 3 d (I 1)) fun D =>
 nx2 b c D r z A))))))))))))
 (eC Tryz.prog R h g true 239 #[e] fun E F G =>
 (fin R G F E))))))
theorem ok_msgs_written {R : Ending → World → Prop} {w0 : World} {p0 : Value} (h : vc_msgs_written R w0 (old w0) p0) : Calls Tryz.prog 242 #[p0] w0 R :=
  calls_of_vc (pl := pl_msgs_written) Tryz.func242 (by kernel_rfl) (by kernel_rfl) h
noncomputable def pl_recs_Parts : Plan := ⟨35, [], [], [0, 2, 3, 4, 5, 6, 7, 8, 30], [14, 15, 16, 18, 19, 20, 21, 22, 23, 24, 25, 26, 27, 28, 29], [7]⟩
def vc_recs_Parts (R : Ending → World → Prop) (w0 : World) (X0 : XS) (p0 : Value) : Prop :=
 (rdV Tryz.prog X0 w0 (lnS 22 3 p0) fun a =>
 (lp1 X0 w0 (I 0) 7 fun b c d e g =>
 rdV Tryz.prog g e (binOp .lss 3 d a) fun h =>
 (condW h
 ((rdV Tryz.prog g e (ixS 22 1 p0 d) fun i =>
 rdV Tryz.prog g e (ld1 3 i) fun j =>
 (rdV Tryz.prog g e (binOp .lss 3 j (I 1)) fun k =>
 un (gSel k false j) fun l =>
 grdW Tryz.prog g e k false (vS (binOp .gtr 3 l (I 12))) fun m =>
 rdW Tryz.prog g e (pickN k (B true) m) fun n =>
 un (gSel n false d) fun o =>
 grdW Tryz.prog g e n false (vS (binOp .gtr 3 o (I 0))) fun q =>
 un (gSel n false q) fun r =>
 un (gSel r true p0) fun s =>
 un (gSel r true d) fun t =>
 grdW Tryz.prog g e r true (vS (binOp .sub 3 t (I 1))) fun v =>
 grdW Tryz.prog g e r true (vS (ixS 22 1 s v)) fun y =>
 grdW Tryz.prog g e r true (vS (ld1 3 y)) fun z =>
 un (gSel r true j) fun A =>
 grdW Tryz.prog g e r true (vS (binOp .geq 3 z A)) fun C =>
 grdW Tryz.prog g e n false (pickN r C (B false)) fun D =>
 rdW Tryz.prog g e (pickN n (B true) D) fun E =>
 (condW E
 (fin R g e (B false))
 (((rdV Tryz.prog g e (binOp .add 3 d (I 1)) fun F =>
 nx1 b c F e g)))))))
 (((rdV Tryz.prog g e (lnS 22 3 p0) fun G =>
 rdV Tryz.prog g e (binOp .gtr 3 G (I 0)) fun H =>
 (fin R g e H)))))))
theorem ok_recs_Parts {R : Ending → World → Prop} {w0 : World} {p0 : Value} (h : vc_recs_Parts R w0 (old w0) p0) : Calls Tryz.prog 243 #[p0] w0 R :=
  calls_of_vc (pl := pl_recs_Parts) Tryz.func243 (by kernel_rfl) (by kernel_rfl) h
noncomputable def pl_msgs_has : Plan := ⟨17, [], [], [0, 1, 4, 6, 7, 8, 9, 10, 15], [], [9]⟩
def vc_msgs_has (R : Ending → World → Prop) (w0 : World) (X0 : XS) (p0 : Value) (p1 : Int) : Prop :=
 (rdV Tryz.prog X0 w0 (lnS 22 3 p0) fun a =>
 (lp1 X0 w0 (I 0) 9 fun b c d e g =>
 rdV Tryz.prog g e (binOp .lss 3 d a) fun h =>
 (condW h
 ((rdV Tryz.prog g e (ixS 22 1 p0 d) fun i =>
 rdV Tryz.prog g e (ld1 3 i) fun j =>
 (rdV Tryz.prog g e (binS .eql 3 (.tmp 13) (.tmp 14) j (I p1)) fun k =>
 (condW k
 (fin R g e (B true))
 (((rdV Tryz.prog g e (binOp .add 3 d (I 1)) fun l =>
 nx1 b c l e g)))))))
 (fin R g e (B false)))))
theorem ok_msgs_has {R : Ending → World → Prop} {w0 : World} {p0 : Value} {p1 : Int} (h : vc_msgs_has R w0 (old w0) p0 p1) : Calls Tryz.prog 244 #[p0, (I p1)] w0 R :=
  calls_of_vc (pl := pl_msgs_has) Tryz.func244 (by kernel_rfl) (by kernel_rfl) h
noncomputable def pl_place_May : Plan := ⟨33, [(1, (Tryz.prog.cellsOf 42))], [3, 7, 12, 17, 22, 27, 29], [0, 2], [6, 8, 9, 11, 13, 14, 16, 18, 19, 21, 23, 24, 26, 28, 30, 31], []⟩
def vc_place_May (R : Ending → World → Prop) (w0 : World) (X0 : XS) (p0_0 p0_1 : Int) (p0_2 p0_3 : Nat) : Prop :=
 (rdV Tryz.prog X0 w0 (binOp .geq 3 (I p0_0) (I 1)) fun a =>
 un (gSel a true (I p0_0)) fun b =>
 grdW Tryz.prog X0 w0 a true (vS (binOp .leq 3 b (I 12))) fun c =>
 rdW Tryz.prog X0 w0 (pickN a c (B false)) fun d =>
 un (gSel d true (I p0_1)) fun e =>
 grdW Tryz.prog X0 w0 d true (vS (binOp .geq 3 e (I 0))) fun g =>
 rdW Tryz.prog X0 w0 (pickN d g (B false)) fun h =>
 un (gSel h true (.float .f64 p0_2)) fun i =>
 jn (fun (j : Value) (k : World) (l : XS) =>
 rdW Tryz.prog l k (pickN h j (B false)) fun m =>
 un (gSel m true (.float .f64 p0_3)) fun n =>
 jn (fun (o : Value) (q : World) (r : XS) =>
 rdW Tryz.prog r q (pickN m o (B false)) fun s =>
 un (gSel s true (.float .f64 p0_2)) fun t =>
 un (gSel s true (.float .f64 p0_3)) fun v =>
 grdW Tryz.prog r q s true (vS (binOp .lss 40 t v)) fun y =>
 rdW Tryz.prog r q (pickN s y (B false)) fun z =>
 (fin R r q z)) fun A =>
 (gE m true (eC Tryz.prog R l k true 314 #[n] A) (A undef k l))) fun C =>
 (gE h true (eC Tryz.prog R X0 w0 true 314 #[i] C) (C undef w0 X0)))
theorem ok_place_May {R : Ending → World → Prop} {w0 : World} {p0_0 p0_1 : Int} {p0_2 p0_3 : Nat} (h : vc_place_May R w0 (old w0) p0_0 p0_1 p0_2 p0_3) : Calls Tryz.prog 245 #[(.agg #[(I p0_0), (I p0_1), (.float .f64 p0_2), (.float .f64 p0_3)])] w0 R :=
  calls_of_vc (pl := pl_place_May) Tryz.func245 (by kernel_rfl) (by kernel_rfl) h
noncomputable def pl_mvcc_Load : Plan := ⟨80, [(9, (Tryz.prog.cellsOf 288)), (11, (Tryz.prog.cellsOf 229)), (13, (Tryz.prog.cellsOf 229))], [30, 32, 35, 51, 74], [0, 1, 4, 5, 6, 7, 12, 14, 16, 17, 18, 19, 25, 38, 39, 40, 41, 56, 60, 62, 66], [], [7, 18, 40]⟩
def vc_mvcc_Load (R : Ending → World → Prop) (w0 : World) (X0 : XS) (p0 p1 : Value) : Prop :=
 (eC Tryz.prog R X0 w0 true 315 #[] fun a b c =>
 ((rdV Tryz.prog c b (lnS 43 3 p0) fun d =>
 (lp2 c b (I 0) (.string { data := #[] }) 18 7 fun e g h i j k =>
 rdV Tryz.prog k j (binOp .lss 3 h d) fun l =>
 (condW l
 ((rdV Tryz.prog k j (ixS 43 2 p0 h) fun m =>
 rdV Tryz.prog k j (ldA 288 2 m) fun n =>
 un (Value.agg (Value.cells n)) fun o =>
 chk (List.length (Array.toList (Value.cells n)) == 2) (chk (List.all (Array.toList (Value.cells n)) one) ((chk (isA o) (un (subOf o 0 2) fun q =>
 eC Tryz.prog R k j true 316 #[q, i] fun r s t =>
 rdV Tryz.prog t s (Op.unary UnOp.not r) fun v =>
 (condW v
 ((fin R t s (Value.tuple #[(.pointer none), (I 4)])))
 ((rdW Tryz.prog t s (nilN a) fun y =>
 rdV Tryz.prog t s (fld 382 0 0 1 y) fun z =>
 rdV Tryz.prog t s (ld1 379 z) fun A =>
 chk (isA o) (un (cellOf o 1) fun C =>
 eC Tryz.prog R t s false 317 #[C] fun D E F =>
 un (cellOf o 0) fun G =>
 eU Tryz.prog R F E true (Instr.mapUpdate 379 A G D) fun _ H L =>
 (chk (isA o) (((rdV Tryz.prog L H (binOp .add 3 h (I 1)) fun M =>
 nx2 e g M G H L))))))))))))))
 (((rdV Tryz.prog k j (lnS 44 3 p1) fun N =>
 (lp1 k j (I 0) 40 fun O Q S T U =>
 rdV Tryz.prog U T (binOp .lss 3 S N) fun V =>
 (condW V
 ((rdV Tryz.prog U T (ixS 44 8 p1 S) fun Y =>
 rdV Tryz.prog U T (ldA 229 8 Y) fun Z =>
 un (Value.agg (Value.cells Z)) fun a0 =>
 chk (List.length (Array.toList (Value.cells Z)) == 8) (chk (List.all (Array.toList (Value.cells Z)) one) ((chk (isA a0) (un (subOf a0 0 8) fun b0 =>
 eC Tryz.prog R U T true 250 #[b0] fun c0 d0 e0 =>
 (rdW Tryz.prog e0 d0 (nilN a) fun g0 =>
 rdV Tryz.prog e0 d0 (fld 382 1 1 1 g0) fun h0 =>
 rdV Tryz.prog e0 d0 (ld1 380 h0) fun i0 =>
 chk (isA a0) (un (subOf a0 0 3) fun j0 =>
 rdV Tryz.prog e0 d0 (Instr.lookup 380 i0 j0 true) fun k0 =>
 rdV Tryz.prog e0 d0 (Instr.extract k0 0) fun l0 =>
 rdV Tryz.prog e0 d0 (Instr.extract k0 1) fun m0 =>
 un (Value.agg (Value.cells l0)) fun _ =>
 chk (List.length (Array.toList (Value.cells l0)) == 8) (chk (List.all (Array.toList (Value.cells l0)) one) ((rdV Tryz.prog e0 d0 (binS .neq 29 (.tmp 57) (.const (I 0)) c0 (I 0)) fun n0 =>
 (condW n0
 ((fin R e0 d0 (Value.tuple #[(.pointer none), c0])))
 ((condW m0
 ((fin R e0 d0 (Value.tuple #[(.pointer none), (I 9)])))
 (chk (isA a0) (eC Tryz.prog R e0 d0 true 318 #[a, b0] fun o0 q0 r0 =>
 (condW o0
 ((fin R r0 q0 (Value.tuple #[(.pointer none), (I 18)])))
 (chk (isA a0) (eC Tryz.prog R r0 q0 true 319 #[a, b0] fun s0 t0 v0 =>
 (condW s0
 ((fin R v0 t0 (Value.tuple #[(.pointer none), (I 20)])))
 (((rdW Tryz.prog v0 t0 (nilN a) fun y0 =>
 rdV Tryz.prog v0 t0 (fld 382 1 1 1 y0) fun z0 =>
 rdV Tryz.prog v0 t0 (ld1 380 z0) fun A0 =>
 chk (isA a0) (eC Tryz.prog R v0 t0 false 320 #[b0] fun C0 D0 E0 =>
 eU Tryz.prog R E0 D0 true (Instr.mapUpdate 380 A0 j0 C0) fun _ F0 G0 =>
 ((rdV Tryz.prog G0 F0 (binOp .add 3 S (I 1)) fun H0 =>
 nx1 O Q H0 F0 G0))))))))))))))))))))))))))
 ((((fin R U T (Value.tuple #[a, (I 0)])))))))))))))))
theorem ok_mvcc_Load {R : Ending → World → Prop} {w0 : World} {p0 p1 : Value} (h : vc_mvcc_Load R w0 (old w0) p0 p1) : Calls Tryz.prog 246 #[p0, p1] w0 R :=
  calls_of_vc (pl := pl_mvcc_Load) Tryz.func246 (by kernel_rfl) (by kernel_rfl) h
noncomputable def pl_recs_StateMay_c1 : Plan := ⟨9, [], [], [0, 1, 3], [], []⟩
def vc_recs_StateMay_c1 (R : Ending → World → Prop) (w0 : World) (X0 : XS) (p0 : ByteArray) (c0 : Value) : Prop :=
 (rdV Tryz.prog X0 w0 (fld 46 0 0 4 c0) fun a =>
 rdV Tryz.prog X0 w0 (ldA 42 4 a) fun b =>
 eC Tryz.prog R X0 w0 false 249 #[(.string p0)] fun c d e =>
 eC Tryz.prog R e d true 248 #[b, c] fun g h i =>
 (fin R i h g))
theorem ok_recs_StateMay_c1 {R : Ending → World → Prop} {w0 : World} {p0 : ByteArray} {c0 : Value} (h : vc_recs_StateMay_c1 R w0 (old w0) p0 c0) : Calls Tryz.prog 247 #[(.string p0), c0] w0 R :=
  calls_of_vc (pl := pl_recs_StateMay_c1) Tryz.func247 (by kernel_rfl) (by kernel_rfl) h
noncomputable def pl_place_In : Plan := ⟨15, [(2, (Tryz.prog.cellsOf 42))], [6, 11], [0, 1, 4], [9, 10, 12, 13], []⟩
def vc_place_In (R : Ending → World → Prop) (w0 : World) (X0 : XS) (_p0_0 _p0_1 : Int) (p0_2 p0_3 p1 : Nat) : Prop :=
 (rdV Tryz.prog X0 w0 (binOp .geq 40 (.float .f64 p1) (.float .f64 p0_2)) fun a =>
 un (gSel a true (.float .f64 p1)) fun b =>
 un (gSel a true (.float .f64 p0_3)) fun c =>
 grdW Tryz.prog X0 w0 a true (vS (binOp .lss 40 b c)) fun d =>
 rdW Tryz.prog X0 w0 (pickN a d (B false)) fun e =>
 (fin R X0 w0 e))
theorem ok_place_In {R : Ending → World → Prop} {w0 : World} {p0_0 p0_1 : Int} {p0_2 p0_3 p1 : Nat} (h : vc_place_In R w0 (old w0) p0_0 p0_1 p0_2 p0_3 p1) : Calls Tryz.prog 248 #[(.agg #[(I p0_0), (I p0_1), (.float .f64 p0_2), (.float .f64 p0_3)]), (.float .f64 p1)] w0 R :=
  calls_of_vc (pl := pl_place_In) Tryz.func248 (by kernel_rfl) (by kernel_rfl) h
noncomputable def pl_place_Of : Plan := ⟨8, [], [], [0, 2], [], []⟩
def vc_place_Of (R : Ending → World → Prop) (w0 : World) (X0 : XS) (p0 : ByteArray) : Prop :=
 (eC Tryz.prog R X0 w0 true 321 #[(.string p0)] fun a b c =>
 rdV Tryz.prog c b (binOp .shr 196 a (Value.int IntKind.u64 11)) fun d =>
 rdV Tryz.prog c b (cvF 196 40 d) fun e =>
 rdV Tryz.prog c b (binOp .quo 40 e (.float .f64 4845873199050653696)) fun g =>
 (fin R c b g))
theorem ok_place_Of {R : Ending → World → Prop} {w0 : World} {p0 : ByteArray} (h : vc_place_Of R w0 (old w0) p0) : Calls Tryz.prog 249 #[(.string p0)] w0 R :=
  calls_of_vc (pl := pl_place_Of) Tryz.func249 (by kernel_rfl) (by kernel_rfl) h
noncomputable def pl_mvcc_PendingMay : Plan := ⟨45, [(1, (Tryz.prog.cellsOf 229)), (4, (Tryz.prog.cellsOf 53))], [6, 11, 16, 22, 27, 33, 40], [0, 2, 5, 10, 21, 34, 35, 36, 37, 43], [15, 17, 18, 19, 26, 28, 29, 30, 31], [36]⟩
def vc_mvcc_PendingMay (R : Ending → World → Prop) (w0 : World) (X0 : XS) (p0_0 p0_1 p0_2 p0_3 p0_4 p0_5 : Int) (p0_6 p0_7 : Value) : Prop :=
 (eC Tryz.prog R X0 w0 true 238 #[(.agg #[(I p0_0), (I p0_1), (I p0_2)])] fun a b c =>
 rdV Tryz.prog c b (Op.unary UnOp.not a) fun d =>
 (condW d
 (fin R c b (I 4))
 (eC Tryz.prog R c b true 165 #[(.agg #[(I p0_3), (I p0_4), (I p0_5)])] fun e g h =>
 rdV Tryz.prog h g (Op.unary UnOp.not e) fun i =>
 un (gSel i false (.agg #[(I p0_3), (I p0_4), (I p0_5)])) fun j =>
 grdW Tryz.prog h g i false (vS (bld 35 #[(I 0), (I 0), (I 0)] #[])) fun k =>
 grdW Tryz.prog h g i false (vS (binS .eql 35 (.tmp 17) (.tmp 18) j k)) fun l =>
 rdW Tryz.prog h g (pickN i (B true) l) fun m =>
 (condW m
 (fin R h g (I 17))
 (eC Tryz.prog R h g true 322 #[p0_6] fun n o q =>
 rdV Tryz.prog q o (Op.unary UnOp.not n) fun r =>
 un (gSel r false p0_7) fun s =>
 jn (fun (t : Value) (v : World) (y : XS) =>
 jn (fun (z : Value) (A : World) (C : XS) =>
 grdW Tryz.prog C A r false (vS (Op.unary UnOp.not z)) fun D =>
 rdW Tryz.prog C A (pickN r (B true) D) fun E =>
 (condW E
 (fin R C A (I 4))
 (((rdV Tryz.prog C A (lnS 23 3 p0_7) fun F =>
 (lp1 C A (I 0) 36 fun G H L M N =>
 rdV Tryz.prog N M (binOp .lss 3 L F) fun O =>
 (condW O
 ((rdV Tryz.prog N M (ixS 23 4 p0_7 L) fun Q =>
 rdV Tryz.prog N M (ldA 53 4 Q) fun S =>
 un (Value.agg (Value.cells S)) fun T =>
 chk (List.length (Array.toList (Value.cells S)) == 4) (chk (List.all (Array.toList (Value.cells S)) one) ((chk (isA T) (un (subOf T 1 3) fun U =>
 eC Tryz.prog R N M true 158 #[U] fun V Y Z =>
 rdV Tryz.prog Z Y (Op.unary UnOp.not V) fun a0 =>
 (condW a0
 (fin R Z Y (I 4))
 (((rdV Tryz.prog Z Y (binOp .add 3 L (I 1)) fun b0 =>
 nx1 G H b0 Y Z))))))))))
 (fin R N M (I 0))))))))) fun c0 =>
 (gE r false (eC Tryz.prog R y v true 322 #[t] c0) (c0 undef v y))) fun d0 =>
 (gE r false (eC Tryz.prog R q o true 323 #[s] d0) (d0 undef o q)))))))
theorem ok_mvcc_PendingMay {R : Ending → World → Prop} {w0 : World} {p0_0 p0_1 p0_2 p0_3 p0_4 p0_5 : Int} {p0_6 p0_7 : Value} (h : vc_mvcc_PendingMay R w0 (old w0) p0_0 p0_1 p0_2 p0_3 p0_4 p0_5 p0_6 p0_7) : Calls Tryz.prog 250 #[(.agg #[(I p0_0), (I p0_1), (I p0_2), (I p0_3), (I p0_4), (I p0_5), p0_6, p0_7])] w0 R :=
  calls_of_vc (pl := pl_mvcc_PendingMay) Tryz.func250 (by kernel_rfl) (by kernel_rfl) h
noncomputable def pl_frame_put : Plan := ⟨19, [], [], [0, 1, 4], [], []⟩
def vc_frame_put (R : Ending → World → Prop) (w0 : World) (X0 : XS) (p0 : Value) (p1 : Int) : Prop :=
 (rdV Tryz.prog X0 w0 (cvI IntKind.u8 281 5 (Value.int IntKind.u32 p1)) fun a =>
 rdV Tryz.prog X0 w0 (binOp .shr 281 (Value.int IntKind.u32 p1) (Value.int IntKind.u64 8)) fun b =>
 rdV Tryz.prog X0 w0 (cvI IntKind.u8 281 5 b) fun c =>
 rdV Tryz.prog X0 w0 (binOp .shr 281 (Value.int IntKind.u32 p1) (Value.int IntKind.u64 16)) fun d =>
 rdV Tryz.prog X0 w0 (cvI IntKind.u8 281 5 d) fun e =>
 rdV Tryz.prog X0 w0 (binOp .shr 281 (Value.int IntKind.u32 p1) (Value.int IntKind.u64 24)) fun g =>
 rdV Tryz.prog X0 w0 (cvI IntKind.u8 281 5 g) fun h =>
 eV Tryz.prog R X0 w0 true (bsS 95 5 1 4 #[(0, a), (1, c), (2, e), (3, h)]) fun i j k =>
 eV Tryz.prog R k j true (apS 95 5 1 1 95 p0 i) fun l m n =>
 (fin R n m l))
theorem ok_frame_put {R : Ending → World → Prop} {w0 : World} {p0 : Value} {p1 : Int} (h : vc_frame_put R w0 (old w0) p0 p1) : Calls Tryz.prog 251 #[p0, (Value.int IntKind.u32 p1)] w0 R :=
  calls_of_vc (pl := pl_frame_put) Tryz.func251 (by kernel_rfl) (by kernel_rfl) h
noncomputable def pl_disk_Disk_last : Plan := ⟨39, [], [], [0, 2, 7, 27], [], []⟩
def vc_disk_Disk_last (R : Ending → World → Prop) (w0 : World) (X0 : XS) (p0 : Value) : Prop :=
 ((jn (fun (a : World) (b : XS) =>
 (jn (fun (c : World) (d : XS) =>
 rdW Tryz.prog d c (nilN p0) fun e =>
 rdV Tryz.prog d c (fld 106 4 4 1 e) fun g =>
 rdV Tryz.prog d c (ld1 4 g) fun h =>
 (fin R d c h)) fun i =>
 rdW Tryz.prog b a (nilN p0) fun j =>
 rdV Tryz.prog b a (fld 106 4 4 1 j) fun k =>
 rdV Tryz.prog b a (ld1 4 k) fun l =>
 rdV Tryz.prog b a (Op.unary UnOp.not l) fun m =>
 (condW m
 (rdW Tryz.prog b a (nilN p0) fun n =>
 rdV Tryz.prog b a (fld 106 2 2 1 n) fun o =>
 rdV Tryz.prog b a (ld1 3 o) fun q =>
 rdV Tryz.prog b a (binOp .add 3 q (I 1)) fun r =>
 rdW Tryz.prog b a (nilN p0) fun s =>
 rdV Tryz.prog b a (fld 106 2 2 1 s) fun t =>
 eU Tryz.prog R b a true (st1 3 1 t r) fun _ v y =>
 (i v y))
 (i a b)))) fun z =>
 rdW Tryz.prog X0 w0 (nilN p0) fun A =>
 rdV Tryz.prog X0 w0 (fld 106 3 3 1 A) fun C =>
 rdV Tryz.prog X0 w0 (ld1 3 C) fun D =>
 rdV Tryz.prog X0 w0 (binOp .gtr 3 D (I 0)) fun E =>
 (condW E
 (rdW Tryz.prog X0 w0 (nilN p0) fun F =>
 rdV Tryz.prog X0 w0 (fld 106 3 3 1 F) fun G =>
 rdV Tryz.prog X0 w0 (ld1 3 G) fun H =>
 rdV Tryz.prog X0 w0 (binOp .sub 3 H (I 1)) fun L =>
 rdW Tryz.prog X0 w0 (nilN p0) fun M =>
 rdV Tryz.prog X0 w0 (fld 106 3 3 1 M) fun N =>
 eU Tryz.prog R X0 w0 true (st1 3 1 N L) fun _ O Q =>
 (rdW Tryz.prog Q O (nilN p0) fun S =>
 rdV Tryz.prog Q O (fld 106 3 3 1 S) fun T =>
 rdV Tryz.prog Q O (ld1 3 T) fun U =>
 rdV Tryz.prog Q O (binS .eql 3 (.tmp 19) (.const (I 0)) U (I 0)) fun V =>
 rdW Tryz.prog Q O (nilN p0) fun Y =>
 rdV Tryz.prog Q O (fld 106 4 4 1 Y) fun Z =>
 eU Tryz.prog R Q O true (st1 4 1 Z V) fun _ a0 b0 =>
 (z a0 b0)))
 (z w0 X0))))
theorem ok_disk_Disk_last {R : Ending → World → Prop} {w0 : World} {p0 : Value} (h : vc_disk_Disk_last R w0 (old w0) p0) : Calls Tryz.prog 252 #[p0] w0 R :=
  calls_of_vc (pl := pl_disk_Disk_last) Tryz.func252 (by kernel_rfl) (by kernel_rfl) h
noncomputable def pl_disk_Disk_Sync_c1 : Plan := ⟨20, [], [], [0, 1], [], []⟩
def vc_disk_Disk_Sync_c1 (R : Ending → World → Prop) (w0 : World) (X0 : XS) (c0 c1 : Value) : Prop :=
 rdV Tryz.prog X0 w0 (ld1 26 c0) fun a =>
 rdW Tryz.prog X0 w0 (nilN a) fun b =>
 rdV Tryz.prog X0 w0 (fld 106 0 0 1 b) fun c =>
 rdV Tryz.prog X0 w0 (ld1 104 c) fun d =>
 rdV Tryz.prog X0 w0 (ld1 9 c1) fun e =>
 rdV Tryz.prog X0 w0 (Instr.lookup 104 d e false) fun g =>
 rdV Tryz.prog X0 w0 (ld1 26 c0) fun h =>
 rdW Tryz.prog X0 w0 (nilN h) fun i =>
 rdV Tryz.prog X0 w0 (fld 106 0 0 1 i) fun j =>
 rdV Tryz.prog X0 w0 (ld1 104 j) fun k =>
 rdV Tryz.prog X0 w0 (ld1 9 c1) fun l =>
 rdV Tryz.prog X0 w0 (Instr.lookup 104 k l false) fun m =>
 rdW Tryz.prog X0 w0 (nilN m) fun n =>
 rdV Tryz.prog X0 w0 (fld 141 0 0 1 n) fun o =>
 rdV Tryz.prog X0 w0 (ld1 95 o) fun q =>
 rdV Tryz.prog X0 w0 (lnS 95 3 q) fun r =>
 rdW Tryz.prog X0 w0 (nilN g) fun s =>
 rdV Tryz.prog X0 w0 (fld 141 1 1 1 s) fun t =>
 eU Tryz.prog R X0 w0 true (st1 3 1 t r) fun _ v y =>
 fin R y v (Value.tuple #[])
theorem ok_disk_Disk_Sync_c1 {R : Ending → World → Prop} {w0 : World} {c0 c1 : Value} (h : vc_disk_Disk_Sync_c1 R w0 (old w0) c0 c1) : Calls Tryz.prog 253 #[c0, c1] w0 R :=
  calls_of_vc (pl := pl_disk_Disk_Sync_c1) Tryz.func253 (by kernel_rfl) (by kernel_rfl) h
noncomputable def pl_frame_table : Plan := ⟨24, [(0, (Tryz.prog.cellsOf 353))], [], [1, 2, 3, 4, 5, 9, 10], [], [3, 4, 9]⟩
def vc_frame_table (R : Ending → World → Prop) (w0 : World) (X0 : XS) : Prop :=
 (eV Tryz.prog R X0 w0 true (Instr.alloc 353 true (Value.tuple #[])) fun a b c =>
 ((lp3 c b (I 0) undef undef 4 9 3 fun d e g _ _ h i =>
 rdV Tryz.prog i h (binOp .lss 3 g (I 256)) fun j =>
 (condW j
 (((rdV Tryz.prog i h (cvI IntKind.u32 3 281 g) fun k =>
 ((lp2 i h (I 0) k 9 3 fun l m n o q r =>
 rdV Tryz.prog r q (binOp .lss 3 n (I 8)) fun s =>
 (condW s
 ((rdV Tryz.prog r q (binOp .shr 281 o (Value.int IntKind.u64 1)) fun t =>
 rdV Tryz.prog r q (binOp .and 281 o (Value.int IntKind.u32 1)) fun v =>
 rdV Tryz.prog r q (Op.unary UnOp.neg v) fun y =>
 rdV Tryz.prog r q (binOp .and 281 (Value.int IntKind.u32 2197175160) y) fun z =>
 rdV Tryz.prog r q (binOp .xor 281 t z) fun A =>
 ((rdV Tryz.prog r q (binOp .add 3 n (I 1)) fun C =>
 nx2 l m C A q r))))
 (((rdV Tryz.prog r q (Instr.indexAt 353 a g) fun D =>
 eU Tryz.prog R r q true (st1 281 1 D o) fun _ E F =>
 ((rdV Tryz.prog F E (binOp .add 3 g (I 1)) fun G =>
 nx3 d e G n o E F)))))))))))
 (((rdV Tryz.prog i h (ldA 353 256 a) fun H =>
 un (Value.agg (Value.cells H)) fun L =>
 chk (List.length (Array.toList (Value.cells H)) == 256) (chk (List.all (Array.toList (Value.cells H)) one) (un (subOf L 0 256) fun M =>
 chk (List.all [L] isA) (fin R i h M))))))))))
theorem ok_frame_table {R : Ending → World → Prop} {w0 : World} (h : vc_frame_table R w0 (old w0)) : Calls Tryz.prog 287 #[] w0 R :=
  calls_of_vc (pl := pl_frame_table) Tryz.func287 (by kernel_rfl) (by kernel_rfl) h
noncomputable def pl_coder_List_api_Version : Plan := ⟨63, [(8, (Tryz.prog.cellsOf 337))], [], [0, 1, 2, 6, 7, 17, 38, 39, 40, 46], [], [39]⟩
def vc_coder_List_api_Version (R : Ending → World → Prop) (w0 : World) (X0 : XS) (p0 p1 p2 : Value) : Prop :=
 rdW Tryz.prog X0 w0 (nilN p1) fun a =>
 rdV Tryz.prog X0 w0 (ld1 286 a) fun b =>
 rdV Tryz.prog X0 w0 (lnS 286 3 b) fun c =>
 ((jn (fun (d : Value) (e : World) (g : XS) =>
 (lp1 g e (I 0) 39 fun h i j k l =>
 rdV Tryz.prog l k (binOp .lss 3 j d) fun m =>
 (condW m
 ((((jn (fun (n : World) (o : XS) =>
 rdW Tryz.prog o n (nilN p1) fun q =>
 rdV Tryz.prog o n (ld1 286 q) fun r =>
 rdV Tryz.prog o n (ixS 286 6 r j) fun s =>
 eF Tryz.prog R o n true p2 #[s] fun _ t v =>
 ((rdV Tryz.prog v t (binOp .add 3 j (I 1)) fun y =>
 nx1 h i y t v))) fun z =>
 rdW Tryz.prog l k (nilN p0) fun A =>
 rdV Tryz.prog l k (fld 175 0 0 1 A) fun C =>
 rdV Tryz.prog l k (ld1 173 C) fun D =>
 rdV Tryz.prog l k (binS .eql 173 (.tmp 45) (.const (.pointer none)) D (.pointer none)) fun E =>
 (condW E
 ((rdW Tryz.prog l k (nilN p1) fun F =>
 rdV Tryz.prog l k (ld1 286 F) fun G =>
 eV Tryz.prog R l k false (bsS 286 337 6 1 #[(0, (.agg #[(I 0), (I 0), (I 0), (I 0), (.float .f64 0), (.string { data := #[] })]))]) fun H L M =>
 eV Tryz.prog R M L true (apS 286 337 6 56 286 G H) fun N O Q =>
 rdW Tryz.prog Q O (nilN p1) fun S =>
 eU Tryz.prog R Q O true (st1 286 1 S N) fun _ T U =>
 (z T U)))
 (z k l))))))
 (fin R l k (Value.tuple #[]))))) fun V =>
 rdW Tryz.prog X0 w0 (nilN p0) fun Y =>
 rdV Tryz.prog X0 w0 (fld 175 0 0 1 Y) fun Z =>
 rdV Tryz.prog X0 w0 (ld1 173 Z) fun a0 =>
 rdV Tryz.prog X0 w0 (binS .neq 173 (.tmp 16) (.const (.pointer none)) a0 (.pointer none)) fun b0 =>
 (condW b0
 (rdW Tryz.prog X0 w0 (nilN p0) fun c0 =>
 rdV Tryz.prog X0 w0 (fld 175 0 0 1 c0) fun d0 =>
 rdV Tryz.prog X0 w0 (ld1 173 d0) fun e0 =>
 eC Tryz.prog R X0 w0 true 206 #[e0, c] fun _ g0 h0 =>
 (V c g0 h0))
 (rdW Tryz.prog X0 w0 (nilN p0) fun i0 =>
 rdV Tryz.prog X0 w0 (fld 175 1 1 1 i0) fun j0 =>
 rdV Tryz.prog X0 w0 (ld1 169 j0) fun k0 =>
 rdW Tryz.prog X0 w0 (nilN p0) fun l0 =>
 rdV Tryz.prog X0 w0 (fld 175 1 1 1 l0) fun m0 =>
 rdV Tryz.prog X0 w0 (ld1 169 m0) fun n0 =>
 eC Tryz.prog R X0 w0 false 216 #[n0] fun o0 q0 r0 =>
 eC Tryz.prog R r0 q0 true 215 #[k0, o0] fun s0 t0 v0 =>
 (eC Tryz.prog R v0 t0 true 208 #[p0] fun _ y0 z0 =>
 (rdW Tryz.prog z0 y0 (nilN p1) fun A0 =>
 eU Tryz.prog R z0 y0 true (st1 286 1 A0 (.slice none 0 0)) fun _ C0 D0 =>
 (V s0 C0 D0)))))))
theorem ok_coder_List_api_Version {R : Ending → World → Prop} {w0 : World} {p0 p1 p2 : Value} (h : vc_coder_List_api_Version R w0 (old w0) p0 p1 p2) : Calls Tryz.prog 289 #[p0, p1, p2] w0 R :=
  calls_of_vc (pl := pl_coder_List_api_Version) Tryz.func289 (by kernel_rfl) (by kernel_rfl) h
noncomputable def pl_coder_Coder_version : Plan := ⟨14, [], [], [0, 1], [], []⟩
def vc_coder_Coder_version (R : Ending → World → Prop) (w0 : World) (X0 : XS) (p0 p1 : Value) : Prop :=
 rdW Tryz.prog X0 w0 (nilN p1) fun a =>
 rdV Tryz.prog X0 w0 (fld 337 0 0 3 a) fun b =>
 eC Tryz.prog R X0 w0 true 148 #[p0, b] fun _ c d =>
 (rdW Tryz.prog d c (nilN p1) fun e =>
 rdV Tryz.prog d c (fld 337 1 3 3 e) fun g =>
 eC Tryz.prog R d c true 221 #[p0, g] fun _ h i =>
 fin R i h (Value.tuple #[]))
theorem ok_coder_Coder_version {R : Ending → World → Prop} {w0 : World} {p0 p1 : Value} (h : vc_coder_Coder_version R w0 (old w0) p0 p1) : Calls Tryz.prog 290 #[p0, p1] w0 R :=
  calls_of_vc (pl := pl_coder_Coder_version) Tryz.func290 (by kernel_rfl) (by kernel_rfl) h
noncomputable def pl_wire_Writer_Text : Plan := ⟨17, [], [], [0, 1], [], []⟩
def vc_wire_Writer_Text (R : Ending → World → Prop) (w0 : World) (X0 : XS) (p0 : Value) (p1 : ByteArray) : Prop :=
 rdV Tryz.prog X0 w0 (lnT 9 3 (.string p1)) fun a =>
 eC Tryz.prog R X0 w0 true 206 #[p0, a] fun _ b c =>
 (rdW Tryz.prog c b (nilN p0) fun d =>
 rdV Tryz.prog c b (fld 308 0 0 1 d) fun e =>
 rdV Tryz.prog c b (ld1 95 e) fun g =>
 eV Tryz.prog R c b true (Builtin.append_ #[95, 9] 95 #[g, (.string p1)]) fun h i j =>
 rdW Tryz.prog j i (nilN p0) fun k =>
 rdV Tryz.prog j i (fld 308 0 0 1 k) fun l =>
 eU Tryz.prog R j i true (st1 95 1 l h) fun _ m n =>
 fin R n m (Value.tuple #[]))
theorem ok_wire_Writer_Text {R : Ending → World → Prop} {w0 : World} {p0 : Value} {p1 : ByteArray} (h : vc_wire_Writer_Text R w0 (old w0) p0 p1) : Calls Tryz.prog 291 #[p0, (.string p1)] w0 R :=
  calls_of_vc (pl := pl_wire_Writer_Text) Tryz.func291 (by kernel_rfl) (by kernel_rfl) h
noncomputable def pl_datum_Put : Plan := ⟨26, [(3, (Tryz.prog.cellsOf 51))], [9, 12, 17, 23], [0, 1, 6, 13, 14, 20], [], []⟩
def vc_datum_Put (R : Ending → World → Prop) (w0 : World) (X0 : XS) (p0 : Value) (p1_0 : Int) (p1_1 : Nat) (p1_2 : ByteArray) : Prop :=
 ((jn (fun (a : Value) (b : World) (c : XS) =>
 chk (isA a) (un (cellOf a 0) fun d =>
 eC Tryz.prog R c b true 206 #[p0, d] fun _ e g =>
 (chk (isA a) (((jn (fun (h : World) (i : XS) =>
 fin R i h (Value.tuple #[])) fun j =>
 rdV Tryz.prog g e (binS .eql 3 (.tmp 13) (.const (I 1)) d (I 1)) fun k =>
 (condW k
 (chk (isA a) (un (cellOf a 1) fun l =>
 eC Tryz.prog R g e true 219 #[p0, l] fun _ m n =>
 (j m n)))
 (rdV Tryz.prog g e (binS .eql 3 (.tmp 13) (.const (I 2)) d (I 2)) fun o =>
 (condW o
 (chk (isA a) (un (cellOf a 2) fun q =>
 eC Tryz.prog R g e true 291 #[p0, q] fun _ r s =>
 (j r s)))
 (j e g)))))))))) fun t =>
 eC Tryz.prog R X0 w0 true 158 #[(.agg #[(I p1_0), (.float .f64 p1_1), (.string p1_2)])] fun v y z =>
 rdV Tryz.prog z y (Op.unary UnOp.not v) fun A =>
 (condW A
 (rdV Tryz.prog z y (bld 51 #[(I 0), (.float .f64 0), (.string ⟨#[]⟩)] #[]) fun C =>
 un (Value.agg (Value.cells C)) fun D =>
 chk (List.length (Array.toList (Value.cells C)) == 3) (chk (List.all (Array.toList (Value.cells C)) one) (t D y z)))
 ((t (.agg #[(I p1_0), (.float .f64 p1_1), (.string p1_2)]) y z)))))
theorem ok_datum_Put {R : Ending → World → Prop} {w0 : World} {p0 : Value} {p1_0 : Int} {p1_1 : Nat} {p1_2 : ByteArray} (h : vc_datum_Put R w0 (old w0) p0 p1_0 p1_1 p1_2) : Calls Tryz.prog 296 #[p0, (.agg #[(I p1_0), (.float .f64 p1_1), (.string p1_2)])] w0 R :=
  calls_of_vc (pl := pl_datum_Put) Tryz.func296 (by kernel_rfl) (by kernel_rfl) h
noncomputable def pl_recs_zeroState : Plan := ⟨51, [(1, (Tryz.prog.cellsOf 46))], [3, 4, 8, 9, 14, 15, 21, 22, 28, 34, 40, 46], [0, 2], [7, 10, 11, 13, 16, 17, 18, 20, 23, 24, 25, 27, 29, 30, 31, 33, 35, 36, 37, 39, 41, 42, 43, 45, 47, 48, 49], []⟩
def vc_recs_zeroState (R : Ending → World → Prop) (w0 : World) (X0 : XS) (p0_0 p0_1 : Int) (p0_2 p0_3 : Nat) (p0_4 p0_5 p0_6 p0_7 p0_8 p0_9 : Int) (p0_10 p0_11 : Value) : Prop :=
 (rdV Tryz.prog X0 w0 (binS .eql 3 (.tmp 5) (.const (I 0)) (I p0_0) (I 0)) fun a =>
 un (gSel a true (I p0_1)) fun b =>
 grdW Tryz.prog X0 w0 a true (vS (binS .eql 3 (.tmp 10) (.const (I 0)) b (I 0))) fun c =>
 rdW Tryz.prog X0 w0 (pickN a c (B false)) fun d =>
 un (gSel d true (.float .f64 p0_2)) fun e =>
 jn (fun (g : Value) (h : World) (i : XS) =>
 grdW Tryz.prog i h d true (vS (binS .eql 196 (.tmp 17) (.const (Value.int IntKind.u64 0)) g (Value.int IntKind.u64 0))) fun j =>
 rdW Tryz.prog i h (pickN d j (B false)) fun k =>
 un (gSel k true (.float .f64 p0_3)) fun l =>
 jn (fun (m : Value) (n : World) (o : XS) =>
 grdW Tryz.prog o n k true (vS (binS .eql 196 (.tmp 24) (.const (Value.int IntKind.u64 0)) m (Value.int IntKind.u64 0))) fun q =>
 rdW Tryz.prog o n (pickN k q (B false)) fun r =>
 un (gSel r true (.agg #[(I p0_4), (I p0_5), (I p0_6)])) fun s =>
 grdW Tryz.prog o n r true (vS (bld 35 #[(I 0), (I 0), (I 0)] #[])) fun t =>
 grdW Tryz.prog o n r true (vS (binS .eql 35 (.tmp 29) (.tmp 30) s t)) fun v =>
 rdW Tryz.prog o n (pickN r v (B false)) fun y =>
 un (gSel y true (.agg #[(I p0_7), (I p0_8), (I p0_9)])) fun z =>
 grdW Tryz.prog o n y true (vS (bld 35 #[(I 0), (I 0), (I 0)] #[])) fun A =>
 grdW Tryz.prog o n y true (vS (binS .eql 35 (.tmp 35) (.tmp 36) z A)) fun C =>
 rdW Tryz.prog o n (pickN y C (B false)) fun D =>
 un (gSel D true p0_10) fun E =>
 grdW Tryz.prog o n D true (vS (lnS 43 3 E)) fun F =>
 grdW Tryz.prog o n D true (vS (binS .eql 3 (.tmp 42) (.const (I 0)) F (I 0))) fun G =>
 rdW Tryz.prog o n (pickN D G (B false)) fun H =>
 un (gSel H true p0_11) fun L =>
 grdW Tryz.prog o n H true (vS (lnS 44 3 L)) fun M =>
 grdW Tryz.prog o n H true (vS (binS .eql 3 (.tmp 48) (.const (I 0)) M (I 0))) fun N =>
 rdW Tryz.prog o n (pickN H N (B false)) fun O =>
 (fin R o n O)) fun Q =>
 (gE k true (eC Tryz.prog R i h true 111 #[l] Q) (Q undef h i))) fun S =>
 (gE d true (eC Tryz.prog R X0 w0 true 111 #[e] S) (S undef w0 X0)))
theorem ok_recs_zeroState {R : Ending → World → Prop} {w0 : World} {p0_0 p0_1 : Int} {p0_2 p0_3 : Nat} {p0_4 p0_5 p0_6 p0_7 p0_8 p0_9 : Int} {p0_10 p0_11 : Value} (h : vc_recs_zeroState R w0 (old w0) p0_0 p0_1 p0_2 p0_3 p0_4 p0_5 p0_6 p0_7 p0_8 p0_9 p0_10 p0_11) : Calls Tryz.prog 298 #[(.agg #[(I p0_0), (I p0_1), (.float .f64 p0_2), (.float .f64 p0_3), (I p0_4), (I p0_5), (I p0_6), (I p0_7), (I p0_8), (I p0_9), p0_10, p0_11])] w0 R :=
  calls_of_vc (pl := pl_recs_zeroState) Tryz.func298 (by kernel_rfl) (by kernel_rfl) h
noncomputable def pl_recs_decided : Plan := ⟨11, [(3, (Tryz.prog.cellsOf 35))], [], [0, 1, 4, 5], [], []⟩
def vc_recs_decided (R : Ending → World → Prop) (w0 : World) (X0 : XS) (p0 : Bool) (p1_0 p1_1 p1_2 : Int) : Prop :=
 ((condW (B p0)
 (eC Tryz.prog R X0 w0 true 302 #[(.agg #[(I p1_0), (I p1_1), (I p1_2)])] fun a b c =>
 (fin R c b a))
 ((rdV Tryz.prog X0 w0 (bld 35 #[(I 0), (I 0), (I 0)] #[]) fun d =>
 rdV Tryz.prog X0 w0 (binS .eql 35 (.tmp 8) (.tmp 9) (.agg #[(I p1_0), (I p1_1), (I p1_2)]) d) fun e =>
 (fin R X0 w0 e)))))
theorem ok_recs_decided {R : Ending → World → Prop} {w0 : World} {p0 : Bool} {p1_0 p1_1 p1_2 : Int} (h : vc_recs_decided R w0 (old w0) p0 p1_0 p1_1 p1_2) : Calls Tryz.prog 299 #[(B p0), (.agg #[(I p1_0), (I p1_1), (I p1_2)])] w0 R :=
  calls_of_vc (pl := pl_recs_decided) Tryz.func299 (by kernel_rfl) (by kernel_rfl) h
noncomputable def pl_place_Point : Plan := ⟨13, [], [], [0, 2, 3, 4, 8], [], []⟩
def vc_place_Point (R : Ending → World → Prop) (w0 : World) (X0 : XS) (p0 : Nat) : Prop :=
 (eC Tryz.prog R X0 w0 true 348 #[(.float .f64 p0)] fun a b c =>
 rdV Tryz.prog c b (binS .eql 3 (.tmp 6) (.const (I 4)) a (I 4)) fun d =>
 (condW d
 ((fin R c b (Value.tuple #[(.float .f64 0), (I 0)])))
 (eC Tryz.prog R c b true 314 #[(.float .f64 p0)] fun e g h =>
 rdV Tryz.prog h g (Op.unary UnOp.not e) fun i =>
 (condW i
 ((fin R h g (Value.tuple #[(.float .f64 0), (I 1)])))
 ((((fin R h g (Value.tuple #[(.float .f64 p0), (I 0)])))))))))
theorem ok_place_Point {R : Ending → World → Prop} {w0 : World} {p0 : Nat} (h : vc_place_Point R w0 (old w0) p0) : Calls Tryz.prog 300 #[(.float .f64 p0)] w0 R :=
  calls_of_vc (pl := pl_place_Point) Tryz.func300 (by kernel_rfl) (by kernel_rfl) h
noncomputable def pl_recs_ranges : Plan := ⟨9, [], [], [0, 2], [5, 6, 7], []⟩
def vc_recs_ranges (R : Ending → World → Prop) (w0 : World) (X0 : XS) (p0 : Int) : Prop :=
 (rdV Tryz.prog X0 w0 (binOp .geq 3 (I p0) (I 1)) fun a =>
 un (gSel a true (I p0)) fun b =>
 grdW Tryz.prog X0 w0 a true (vS (binOp .leq 3 b (I 12))) fun c =>
 rdW Tryz.prog X0 w0 (pickN a c (B false)) fun d =>
 (fin R X0 w0 d))
theorem ok_recs_ranges {R : Ending → World → Prop} {w0 : World} {p0 : Int} (h : vc_recs_ranges R w0 (old w0) p0) : Calls Tryz.prog 301 #[(I p0)] w0 R :=
  calls_of_vc (pl := pl_recs_ranges) Tryz.func301 (by kernel_rfl) (by kernel_rfl) h
noncomputable def pl_recs_moment : Plan := ⟨10, [(1, (Tryz.prog.cellsOf 35))], [], [0, 2], [5, 6, 7, 8], []⟩
def vc_recs_moment (R : Ending → World → Prop) (w0 : World) (X0 : XS) (p0_0 p0_1 p0_2 : Int) : Prop :=
 (eC Tryz.prog R X0 w0 true 165 #[(.agg #[(I p0_0), (I p0_1), (I p0_2)])] fun a b c =>
 un (gSel a true (.agg #[(I p0_0), (I p0_1), (I p0_2)])) fun d =>
 grdW Tryz.prog c b a true (vS (bld 35 #[(I 0), (I 0), (I 0)] #[])) fun e =>
 grdW Tryz.prog c b a true (vS (binS .neq 35 (.tmp 6) (.tmp 7) d e)) fun g =>
 rdW Tryz.prog c b (pickN a g (B false)) fun h =>
 (fin R c b h))
theorem ok_recs_moment {R : Ending → World → Prop} {w0 : World} {p0_0 p0_1 p0_2 : Int} (h : vc_recs_moment R w0 (old w0) p0_0 p0_1 p0_2) : Calls Tryz.prog 302 #[(.agg #[(I p0_0), (I p0_1), (I p0_2)])] w0 R :=
  calls_of_vc (pl := pl_recs_moment) Tryz.func302 (by kernel_rfl) (by kernel_rfl) h
noncomputable def pl_recs_pairs : Plan := ⟨44, [(4, (Tryz.prog.cellsOf 74))], [12, 26, 32, 38, 39], [0, 2, 3, 5, 6, 7, 8, 42], [16, 17, 18, 19, 20, 21, 22, 23, 24, 25, 27, 28, 29, 31, 33, 34, 35, 37, 40, 41], [7]⟩
def vc_recs_pairs (R : Ending → World → Prop) (w0 : World) (X0 : XS) (p0 : Value) : Prop :=
 (rdV Tryz.prog X0 w0 (lnS 54 3 p0) fun a =>
 (lp1 X0 w0 (I 0) 7 fun b c d e g =>
 rdV Tryz.prog g e (binOp .lss 3 d a) fun h =>
 (condW h
 ((rdV Tryz.prog g e (ixS 54 4 p0 d) fun i =>
 rdV Tryz.prog g e (ldA 74 4 i) fun j =>
 un (Value.agg (Value.cells j)) fun k =>
 chk (List.length (Array.toList (Value.cells j)) == 4) (chk (List.all (Array.toList (Value.cells j)) one) ((chk (isA k) (un (cellOf k 0) fun l =>
 eC Tryz.prog R g e true 312 #[l] fun m n o =>
 rdV Tryz.prog o n (Op.unary UnOp.not m) fun q =>
 un (gSel q false d) fun r =>
 grdW Tryz.prog o n q false (vS (binOp .gtr 3 r (I 0))) fun s =>
 un (gSel q false s) fun t =>
 un (gSel t true p0) fun v =>
 un (gSel t true d) fun y =>
 grdW Tryz.prog o n t true (vS (binOp .sub 3 y (I 1))) fun z =>
 grdW Tryz.prog o n t true (vS (ixS 54 4 v z)) fun A =>
 grdW Tryz.prog o n t true (vS (fld 74 0 0 1 A)) fun C =>
 grdW Tryz.prog o n t true (vS (ld1 9 C)) fun D =>
 un (gSel t true l) fun E =>
 grdW Tryz.prog o n t true (vS (binOp .geq 9 D E)) fun F =>
 grdW Tryz.prog o n q false (pickN t F (B false)) fun G =>
 rdW Tryz.prog o n (pickN q (B true) G) fun H =>
 un (subOf k 1 3) fun L =>
 un (gSel H false L) fun M =>
 jn (fun (N : Value) (O : World) (Q : XS) =>
 grdW Tryz.prog Q O H false (vS (Op.unary UnOp.not N)) fun S =>
 rdW Tryz.prog Q O (pickN H (B true) S) fun T =>
 un (cellOf k 1) fun U =>
 un (gSel T false U) fun V =>
 grdW Tryz.prog Q O T false (vS (binS .eql 3 (.tmp 40) (.const (I 0)) V (I 0))) fun Y =>
 rdW Tryz.prog Q O (pickN T (B true) Y) fun Z =>
 (condW Z
 (fin R Q O (B false))
 (((rdV Tryz.prog Q O (binOp .add 3 d (I 1)) fun a0 =>
 nx1 b c a0 O Q))))) fun b0 =>
 (gE H false (eC Tryz.prog R o n true 158 #[M] b0) (b0 undef n o))))))))
 (fin R g e (B true)))))
theorem ok_recs_pairs {R : Ending → World → Prop} {w0 : World} {p0 : Value} (h : vc_recs_pairs R w0 (old w0) p0) : Calls Tryz.prog 303 #[p0] w0 R :=
  calls_of_vc (pl := pl_recs_pairs) Tryz.func303 (by kernel_rfl) (by kernel_rfl) h
noncomputable def pl_num_Canon : Plan := ⟨8, [], [], [0, 2, 5], [], []⟩
def vc_num_Canon (R : Ending → World → Prop) (w0 : World) (X0 : XS) (p0 : Nat) : Prop :=
 (rdV Tryz.prog X0 w0 (binS .neq 40 (.tmp 3) (.tmp 4) (.float .f64 p0) (.float .f64 p0)) fun a =>
 (condW a
 (eC Tryz.prog R X0 w0 true 346 #[(Value.int IntKind.u64 9221120237041090560)] fun b c d =>
 (fin R d c b))
 (fin R X0 w0 (.float .f64 p0))))
theorem ok_num_Canon {R : Ending → World → Prop} {w0 : World} {p0 : Nat} (h : vc_num_Canon R w0 (old w0) p0) : Calls Tryz.prog 304 #[(.float .f64 p0)] w0 R :=
  calls_of_vc (pl := pl_num_Canon) Tryz.func304 (by kernel_rfl) (by kernel_rfl) h
noncomputable def pl_datum_Key : Plan := ⟨11, [], [], [0, 2], [6, 7, 8, 9], []⟩
def vc_datum_Key (R : Ending → World → Prop) (w0 : World) (X0 : XS) (p0 : ByteArray) : Prop :=
 (rdV Tryz.prog X0 w0 (lnT 9 3 (.string p0)) fun a =>
 rdV Tryz.prog X0 w0 (binOp .geq 3 a (I 1)) fun b =>
 un (gSel b true (.string p0)) fun c =>
 grdW Tryz.prog X0 w0 b true (vS (lnT 9 3 c)) fun d =>
 grdW Tryz.prog X0 w0 b true (vS (binOp .leq 3 d (I 24))) fun e =>
 rdW Tryz.prog X0 w0 (pickN b e (B false)) fun g =>
 (fin R X0 w0 g))
theorem ok_datum_Key {R : Ending → World → Prop} {w0 : World} {p0 : ByteArray} (h : vc_datum_Key R w0 (old w0) p0) : Calls Tryz.prog 312 #[(.string p0)] w0 R :=
  calls_of_vc (pl := pl_datum_Key) Tryz.func312 (by kernel_rfl) (by kernel_rfl) h
noncomputable def pl_msgs_cover : Plan := ⟨18, [(4, (Tryz.prog.cellsOf 42))], [], [0, 2, 5, 6, 7, 8, 13], [], [7]⟩
def vc_msgs_cover (R : Ending → World → Prop) (w0 : World) (X0 : XS) (p0 : Value) : Prop :=
 (rdV Tryz.prog X0 w0 (lnS 38 3 p0) fun a =>
 (lp1 X0 w0 (I 0) 7 fun b c d e g =>
 rdV Tryz.prog g e (binOp .lss 3 d a) fun h =>
 (condW h
 ((rdV Tryz.prog g e (ixS 38 4 p0 d) fun i =>
 rdV Tryz.prog g e (ldA 42 4 i) fun j =>
 un (Value.agg (Value.cells j)) fun k =>
 chk (List.length (Array.toList (Value.cells j)) == 4) (chk (List.all (Array.toList (Value.cells j)) one) ((chk (isA k) (un (subOf k 0 4) fun l =>
 eC Tryz.prog R g e true 245 #[l] fun m n o =>
 rdV Tryz.prog o n (Op.unary UnOp.not m) fun q =>
 (condW q
 (fin R o n (B false))
 (((rdV Tryz.prog o n (binOp .add 3 d (I 1)) fun r =>
 nx1 b c r n o))))))))))
 (((rdV Tryz.prog g e (lnS 38 3 p0) fun s =>
 rdV Tryz.prog g e (binOp .leq 3 s (I 12)) fun t =>
 (fin R g e t)))))))
theorem ok_msgs_cover {R : Ending → World → Prop} {w0 : World} {p0 : Value} (h : vc_msgs_cover R w0 (old w0) p0) : Calls Tryz.prog 313 #[p0] w0 R :=
  calls_of_vc (pl := pl_msgs_cover) Tryz.func313 (by kernel_rfl) (by kernel_rfl) h
noncomputable def pl_place_point : Plan := ⟨10, [], [], [0, 2], [6, 7, 8], []⟩
def vc_place_point (R : Ending → World → Prop) (w0 : World) (X0 : XS) (p0 : Nat) : Prop :=
 (eC Tryz.prog R X0 w0 true 348 #[(.float .f64 p0)] fun a b c =>
 rdV Tryz.prog c b (binOp .geq 3 a (I 5)) fun d =>
 un (gSel d true (.float .f64 p0)) fun e =>
 grdW Tryz.prog c b d true (vS (binOp .leq 40 e (.float .f64 4607182418800017408))) fun g =>
 rdW Tryz.prog c b (pickN d g (B false)) fun h =>
 (fin R c b h))
theorem ok_place_point {R : Ending → World → Prop} {w0 : World} {p0 : Nat} (h : vc_place_point R w0 (old w0) p0) : Calls Tryz.prog 314 #[(.float .f64 p0)] w0 R :=
  calls_of_vc (pl := pl_place_point) Tryz.func314 (by kernel_rfl) (by kernel_rfl) h
noncomputable def pl_mvcc_New : Plan := ⟨5, [], [], [0], [], []⟩
def vc_mvcc_New (R : Ending → World → Prop) (w0 : World) (X0 : XS) : Prop :=
 (eV Tryz.prog R X0 w0 true (Instr.makeMap 379 none) fun a b c =>
 eV Tryz.prog R c b true (Instr.makeMap 380 none) fun d e g =>
 rdV Tryz.prog g e (bld 382 #[a, d, (I 0), (I 0), (I 0)] #[(0, a), (1, d)]) fun h =>
 eV Tryz.prog R g e true (Instr.box 382 h) fun i j k =>
 (fin R k j i))
theorem ok_mvcc_New {R : Ending → World → Prop} {w0 : World} (h : vc_mvcc_New R w0 (old w0)) : Calls Tryz.prog 315 #[] w0 R :=
  calls_of_vc (pl := pl_mvcc_New) Tryz.func315 (by kernel_rfl) (by kernel_rfl) h
noncomputable def pl_mvcc_history : Plan := ⟨52, [(2, (Tryz.prog.cellsOf 288)), (5, (Tryz.prog.cellsOf 35)), (7, (Tryz.prog.cellsOf 337))], [8, 13, 19, 25, 32, 37, 44, 49], [0, 1, 4, 23, 26, 27, 28, 29, 48], [12, 14, 15, 16, 18, 20, 21, 22, 36, 38, 39, 40, 41, 43, 45, 46, 47], [5, 28]⟩
def vc_mvcc_history (R : Ending → World → Prop) (w0 : World) (X0 : XS) (p0_0 : ByteArray) (p0_1 : Value) (p1 : ByteArray) : Prop :=
 (eC Tryz.prog R X0 w0 true 312 #[(.string p0_0)] fun a b c =>
 rdV Tryz.prog c b (Op.unary UnOp.not a) fun d =>
 un (gSel d false (.string p0_0)) fun e =>
 un (gSel d false (.string p1)) fun g =>
 grdW Tryz.prog c b d false (vS (binOp .leq 9 e g)) fun h =>
 rdW Tryz.prog c b (pickN d (B true) h) fun i =>
 un (gSel i false p0_1) fun j =>
 grdW Tryz.prog c b i false (vS (lnS 286 3 j)) fun k =>
 grdW Tryz.prog c b i false (vS (binS .eql 3 (.tmp 21) (.const (I 0)) k (I 0))) fun l =>
 rdW Tryz.prog c b (pickN i (B true) l) fun m =>
 (condW m
 (fin R c b (B false))
 ((rdV Tryz.prog c b (bld 35 #[(I 0), (I 0), (I 0)] #[]) fun n =>
 un (Value.agg (Value.cells n)) fun o =>
 chk (List.length (Array.toList (Value.cells n)) == 3) (chk (List.all (Array.toList (Value.cells n)) one) ((rdV Tryz.prog c b (lnS 286 3 p0_1) fun q =>
 (lp2 c b (I 0) o 28 5 fun r s t v y z =>
 rdV Tryz.prog z y (binOp .lss 3 t q) fun A =>
 (condW A
 ((rdV Tryz.prog z y (ixS 286 6 p0_1 t) fun C =>
 rdV Tryz.prog z y (ldA 337 6 C) fun D =>
 un (Value.agg (Value.cells D)) fun E =>
 chk (List.length (Array.toList (Value.cells D)) == 6) (chk (List.all (Array.toList (Value.cells D)) one) ((chk (isA E) (un (subOf E 0 3) fun F =>
 eC Tryz.prog R z y true 165 #[F] fun G H L =>
 rdV Tryz.prog L H (Op.unary UnOp.not G) fun M =>
 un (gSel M false F) fun N =>
 chk (isA v) (un (subOf v 0 3) fun O =>
 un (gSel M false O) fun Q =>
 jn (fun (S : Value) (T : World) (U : XS) =>
 grdW Tryz.prog U T M false (vS (binOp .leq 3 S (I 0))) fun V =>
 rdW Tryz.prog U T (pickN M (B true) V) fun Y =>
 un (subOf E 3 3) fun Z =>
 un (gSel Y false Z) fun a0 =>
 jn (fun (b0 : Value) (c0 : World) (d0 : XS) =>
 grdW Tryz.prog d0 c0 Y false (vS (Op.unary UnOp.not b0)) fun e0 =>
 rdW Tryz.prog d0 c0 (pickN Y (B true) e0) fun g0 =>
 (condW g0
 (fin R d0 c0 (B false))
 ((chk (isA E) (chk (isA v) (un (Value.agg (Value.cells F)) fun h0 =>
 chk (List.length (Array.toList (Value.cells F)) == 3) (chk (List.all (Array.toList (Value.cells F)) one) (((rdV Tryz.prog d0 c0 (binOp .add 3 t (I 1)) fun i0 =>
 nx2 r s i0 h0 c0 d0)))))))))) fun j0 =>
 (gE Y false (eC Tryz.prog R U T true 158 #[a0] j0) (j0 undef T U))) fun k0 =>
 (gE M false (eC Tryz.prog R L H true 53 #[N, Q] k0) (k0 undef H L)))))))))
 (fin R z y (B true)))))))))))
theorem ok_mvcc_history {R : Ending → World → Prop} {w0 : World} {p0_0 : ByteArray} {p0_1 : Value} {p1 : ByteArray} (h : vc_mvcc_history R w0 (old w0) p0_0 p0_1 p1) : Calls Tryz.prog 316 #[(.agg #[(.string p0_0), p0_1]), (.string p1)] w0 R :=
  calls_of_vc (pl := pl_mvcc_history) Tryz.func316 (by kernel_rfl) (by kernel_rfl) h
noncomputable def pl_slices_Clone_sl_api_Version_api_Version : Plan := ⟨8, [], [], [0, 2, 4], [], []⟩
def vc_slices_Clone_sl_api_Version_api_Version (R : Ending → World → Prop) (w0 : World) (X0 : XS) (p0 : Value) : Prop :=
 (rdV Tryz.prog X0 w0 (binS .eql 286 (.tmp 3) (.const (.slice none 0 0)) p0 (.slice none 0 0)) fun a =>
 (condW a
 (fin R X0 w0 (.slice none 0 0))
 (eV Tryz.prog R X0 w0 true (bsS 286 337 6 0 #[]) fun b c d =>
 eV Tryz.prog R d c true (apS 286 337 6 56 286 b p0) fun e g h =>
 (fin R h g e))))
theorem ok_slices_Clone_sl_api_Version_api_Version {R : Ending → World → Prop} {w0 : World} {p0 : Value} (h : vc_slices_Clone_sl_api_Version_api_Version R w0 (old w0) p0) : Calls Tryz.prog 317 #[p0] w0 R :=
  calls_of_vc (pl := pl_slices_Clone_sl_api_Version_api_Version) Tryz.func317 (by kernel_rfl) (by kernel_rfl) h
noncomputable def pl_mvcc_Store_locked : Plan := ⟨50, [(3, (Tryz.prog.cellsOf 229)), (6, (Tryz.prog.cellsOf 229)), (8, (Tryz.prog.cellsOf 53))], [20, 28, 32, 34, 39], [0, 1, 4, 10, 15, 17, 21, 22, 23, 24, 37, 40, 41, 42, 43, 48], [31, 33, 35, 36], [23, 42]⟩
def vc_mvcc_Store_locked (R : Ending → World → Prop) (w0 : World) (X0 : XS) (p0 : Value) (_p1_0 _p1_1 _p1_2 _p1_3 _p1_4 _p1_5 : Int) (p1_6 p1_7 : Value) : Prop :=
 (rdW Tryz.prog X0 w0 (nilN p0) fun a =>
 rdV Tryz.prog X0 w0 (fld 382 1 1 1 a) fun b =>
 rdV Tryz.prog X0 w0 (ld1 380 b) fun c =>
 eV Tryz.prog R X0 w0 true (Instr.range 380 c) fun d e g =>
 (lp2 g e undef undef 42 23 fun h i _ _ j k =>
 eV Tryz.prog R k j true (Instr.next d false 0) fun l m n =>
 rdV Tryz.prog n m (Instr.extract l 0) fun o =>
 (condW o
 ((eV Tryz.prog R n m true (Instr.entry d) fun q r s =>
 rdV Tryz.prog s r (Instr.extract q 1) fun t =>
 un (Value.agg (Value.cells t)) fun v =>
 chk (List.length (Array.toList (Value.cells t)) == 8) (chk (List.all (Array.toList (Value.cells t)) one) ((rdV Tryz.prog s r (lnS 23 3 p1_7) fun y =>
 (lp1 s r (I 0) 23 fun z A C D E =>
 rdV Tryz.prog E D (binOp .lss 3 C y) fun F =>
 (condW F
 ((rdV Tryz.prog E D (ixS 23 4 p1_7 C) fun G =>
 rdV Tryz.prog E D (ldA 53 4 G) fun H =>
 un (Value.agg (Value.cells H)) fun L =>
 chk (List.length (Array.toList (Value.cells H)) == 4) (chk (List.all (Array.toList (Value.cells H)) one) ((chk (isA v) (chk (isA L) (un (subOf v 0 8) fun M =>
 un (cellOf L 0) fun N =>
 eC Tryz.prog R E D true 350 #[M, N] fun O Q S =>
 un (cellOf v 6) fun T =>
 un (gSel O false T) fun U =>
 un (gSel O false N) fun V =>
 jn (fun (Y : Value) (Z : World) (a0 : XS) =>
 rdW Tryz.prog a0 Z (pickN O (B true) Y) fun b0 =>
 (condW b0
 (fin R a0 Z (B true))
 (((rdV Tryz.prog a0 Z (binOp .add 3 C (I 1)) fun c0 =>
 nx1 z A c0 Z a0))))) fun d0 =>
 (gE O false (eC Tryz.prog R S Q true 351 #[U, V] d0) (d0 undef Q S)))))))))
 (((rdV Tryz.prog E D (lnS 36 3 p1_6) fun e0 =>
 (lp1 E D (I 0) 42 fun g0 h0 i0 j0 k0 =>
 rdV Tryz.prog k0 j0 (binOp .lss 3 i0 e0) fun l0 =>
 (condW l0
 ((rdV Tryz.prog k0 j0 (ixS 36 1 p1_6 i0) fun m0 =>
 rdV Tryz.prog k0 j0 (ld1 9 m0) fun n0 =>
 (chk (isA v) (un (subOf v 0 8) fun o0 =>
 eC Tryz.prog R k0 j0 true 350 #[o0, n0] fun q0 r0 s0 =>
 (condW q0
 (fin R s0 r0 (B true))
 (((rdV Tryz.prog s0 r0 (binOp .add 3 i0 (I 1)) fun t0 =>
 nx1 g0 h0 t0 r0 s0))))))))
 (nx2 h i i0 C j0 k0)))))))))))))
 (fin R n m (B false)))))
theorem ok_mvcc_Store_locked {R : Ending → World → Prop} {w0 : World} {p0 : Value} {p1_0 p1_1 p1_2 p1_3 p1_4 p1_5 : Int} {p1_6 p1_7 : Value} (h : vc_mvcc_Store_locked R w0 (old w0) p0 p1_0 p1_1 p1_2 p1_3 p1_4 p1_5 p1_6 p1_7) : Calls Tryz.prog 318 #[p0, (.agg #[(I p1_0), (I p1_1), (I p1_2), (I p1_3), (I p1_4), (I p1_5), p1_6, p1_7])] w0 R :=
  calls_of_vc (pl := pl_mvcc_Store_locked) Tryz.func318 (by kernel_rfl) (by kernel_rfl) h
noncomputable def pl_mvcc_Store_old : Plan := ⟨24, [(3, (Tryz.prog.cellsOf 229)), (6, (Tryz.prog.cellsOf 53))], [7, 15, 19], [0, 1, 4, 8, 9, 10, 11, 22], [], [10]⟩
def vc_mvcc_Store_old (R : Ending → World → Prop) (w0 : World) (X0 : XS) (p0 : Value) (_p1_0 _p1_1 _p1_2 p1_3 p1_4 p1_5 : Int) (_p1_6 p1_7 : Value) : Prop :=
 (rdV Tryz.prog X0 w0 (lnS 23 3 p1_7) fun a =>
 (lp1 X0 w0 (I 0) 10 fun b c d e g =>
 rdV Tryz.prog g e (binOp .lss 3 d a) fun h =>
 (condW h
 ((rdV Tryz.prog g e (ixS 23 4 p1_7 d) fun i =>
 rdV Tryz.prog g e (ldA 53 4 i) fun j =>
 un (Value.agg (Value.cells j)) fun k =>
 chk (List.length (Array.toList (Value.cells j)) == 4) (chk (List.all (Array.toList (Value.cells j)) one) ((chk (isA k) (un (cellOf k 0) fun l =>
 eC Tryz.prog R g e false 352 #[p0, l] fun m n o =>
 rdV Tryz.prog o n (fdV 266 2 4 3 m) fun q =>
 eC Tryz.prog R o n true 53 #[q, (.agg #[(I p1_3), (I p1_4), (I p1_5)])] fun r s t =>
 rdV Tryz.prog t s (binOp .geq 3 r (I 0)) fun v =>
 (condW v
 (fin R t s (B true))
 (((rdV Tryz.prog t s (binOp .add 3 d (I 1)) fun y =>
 nx1 b c y s t))))))))))
 (fin R g e (B false)))))
theorem ok_mvcc_Store_old {R : Ending → World → Prop} {w0 : World} {p0 : Value} {p1_0 p1_1 p1_2 p1_3 p1_4 p1_5 : Int} {p1_6 p1_7 : Value} (h : vc_mvcc_Store_old R w0 (old w0) p0 p1_0 p1_1 p1_2 p1_3 p1_4 p1_5 p1_6 p1_7) : Calls Tryz.prog 319 #[p0, (.agg #[(I p1_0), (I p1_1), (I p1_2), (I p1_3), (I p1_4), (I p1_5), p1_6, p1_7])] w0 R :=
  calls_of_vc (pl := pl_mvcc_Store_old) Tryz.func319 (by kernel_rfl) (by kernel_rfl) h
noncomputable def pl_mvcc_clone : Plan := ⟨12, [(1, (Tryz.prog.cellsOf 229)), (2, (Tryz.prog.cellsOf 229))], [3, 6, 7, 10], [0], [], []⟩
def vc_mvcc_clone (R : Ending → World → Prop) (w0 : World) (X0 : XS) (p0_0 p0_1 p0_2 p0_3 p0_4 p0_5 : Int) (p0_6 p0_7 : Value) : Prop :=
 (eC Tryz.prog R X0 w0 true 353 #[p0_6] fun a b c =>
 chk (one a) ((eC Tryz.prog R c b true 60 #[p0_7] fun d e g =>
 chk (one d) ((chk (List.all [(I p0_0), (I p0_1), (I p0_2), (I p0_3), (I p0_4), (I p0_5), a, d] one) ((fin R g e (.agg #[(I p0_0), (I p0_1), (I p0_2), (I p0_3), (I p0_4), (I p0_5), a, d]))))))))
theorem ok_mvcc_clone {R : Ending → World → Prop} {w0 : World} {p0_0 p0_1 p0_2 p0_3 p0_4 p0_5 : Int} {p0_6 p0_7 : Value} (h : vc_mvcc_clone R w0 (old w0) p0_0 p0_1 p0_2 p0_3 p0_4 p0_5 p0_6 p0_7) : Calls Tryz.prog 320 #[(.agg #[(I p0_0), (I p0_1), (I p0_2), (I p0_3), (I p0_4), (I p0_5), p0_6, p0_7])] w0 R :=
  calls_of_vc (pl := pl_mvcc_clone) Tryz.func320 (by kernel_rfl) (by kernel_rfl) h
noncomputable def pl_place_Hash : Plan := ⟨37, [], [], [0, 2, 3, 4, 6, 8, 9, 10, 21, 22, 23], [], [3, 9, 22]⟩
def vc_place_Hash (R : Ending → World → Prop) (w0 : World) (X0 : XS) (p0 : ByteArray) : Prop :=
 ((rdV Tryz.prog X0 w0 (lnT 9 3 (.string p0)) fun a =>
 (lp2 X0 w0 (I 0) (Value.int IntKind.u64 14695981039346656037) 9 3 fun b c d e g h =>
 rdV Tryz.prog h g (binOp .lss 3 d a) fun i =>
 (condW i
 (((rdV Tryz.prog h g (Instr.index 9 (.string p0) d) fun j =>
 rdV Tryz.prog h g (cvI IntKind.u64 5 196 j) fun k =>
 rdV Tryz.prog h g (binOp .xor 196 e k) fun l =>
 (rdV Tryz.prog h g (binOp .mul 196 l (Value.int IntKind.u64 1099511628211)) fun m =>
 ((rdV Tryz.prog h g (binOp .add 3 d (I 1)) fun n =>
 nx2 b c n m g h))))))
 (((rdV Tryz.prog h g (bld 409 #[(Value.int IntKind.u64 18397679294719823053), (Value.int IntKind.u64 14181476777654086739)] #[(0, (Value.int IntKind.u64 18397679294719823053)), (1, (Value.int IntKind.u64 14181476777654086739))]) fun o =>
 (lp2 h g (I 0) e 22 3 fun q r s t v y =>
 rdV Tryz.prog y v (binOp .lss 3 s (I 2)) fun z =>
 (condW z
 ((rdV Tryz.prog y v (ixA 409 2 196 o s) fun A =>
 (rdV Tryz.prog y v (binOp .shr 196 t (Value.int IntKind.u64 33)) fun C =>
 rdV Tryz.prog y v (binOp .xor 196 t C) fun D =>
 (rdV Tryz.prog y v (binOp .mul 196 D A) fun E =>
 ((rdV Tryz.prog y v (binOp .add 3 s (I 1)) fun F =>
 nx2 q r F E v y))))))
 (((rdV Tryz.prog y v (binOp .shr 196 t (Value.int IntKind.u64 33)) fun G =>
 rdV Tryz.prog y v (binOp .xor 196 t G) fun H =>
 (fin R y v H)))))))))))))
theorem ok_place_Hash {R : Ending → World → Prop} {w0 : World} {p0 : ByteArray} (h : vc_place_Hash R w0 (old w0) p0) : Calls Tryz.prog 321 #[(.string p0)] w0 R :=
  calls_of_vc (pl := pl_place_Hash) Tryz.func321 (by kernel_rfl) (by kernel_rfl) h
noncomputable def pl_mvcc_rise : Plan := ⟨32, [], [], [0, 2, 3, 4, 5, 6, 7, 8, 27], [15, 16, 17, 18, 19, 20, 21, 22, 23, 24, 25, 26], [7]⟩
def vc_mvcc_rise (R : Ending → World → Prop) (w0 : World) (X0 : XS) (p0 : Value) : Prop :=
 (rdV Tryz.prog X0 w0 (lnS 36 3 p0) fun a =>
 (lp1 X0 w0 (I 0) 7 fun b c d e g =>
 rdV Tryz.prog g e (binOp .lss 3 d a) fun h =>
 (condW h
 ((rdV Tryz.prog g e (ixS 36 1 p0 d) fun i =>
 rdV Tryz.prog g e (ld1 9 i) fun j =>
 (eC Tryz.prog R g e true 312 #[j] fun k l m =>
 rdV Tryz.prog m l (Op.unary UnOp.not k) fun n =>
 un (gSel n false d) fun o =>
 grdW Tryz.prog m l n false (vS (binOp .gtr 3 o (I 0))) fun q =>
 un (gSel n false q) fun r =>
 un (gSel r true p0) fun s =>
 un (gSel r true d) fun t =>
 grdW Tryz.prog m l r true (vS (binOp .sub 3 t (I 1))) fun v =>
 grdW Tryz.prog m l r true (vS (ixS 36 1 s v)) fun y =>
 grdW Tryz.prog m l r true (vS (ld1 9 y)) fun z =>
 un (gSel r true j) fun A =>
 grdW Tryz.prog m l r true (vS (binOp .geq 9 z A)) fun C =>
 grdW Tryz.prog m l n false (pickN r C (B false)) fun D =>
 rdW Tryz.prog m l (pickN n (B true) D) fun E =>
 (condW E
 (fin R m l (B false))
 (((rdV Tryz.prog m l (binOp .add 3 d (I 1)) fun F =>
 nx1 b c F l m)))))))
 (((rdV Tryz.prog g e (lnS 36 3 p0) fun G =>
 rdV Tryz.prog g e (binOp .leq 3 G (I 16)) fun H =>
 (fin R g e H)))))))
theorem ok_mvcc_rise {R : Ending → World → Prop} {w0 : World} {p0 : Value} (h : vc_mvcc_rise R w0 (old w0) p0) : Calls Tryz.prog 322 #[p0] w0 R :=
  calls_of_vc (pl := pl_mvcc_rise) Tryz.func322 (by kernel_rfl) (by kernel_rfl) h
noncomputable def pl_mvcc_writeKeys : Plan := ⟨19, [(5, (Tryz.prog.cellsOf 53))], [13], [0, 2, 3, 6, 7, 8, 9], [], [3, 8]⟩
def vc_mvcc_writeKeys (R : Ending → World → Prop) (w0 : World) (X0 : XS) (p0 : Value) : Prop :=
 ((rdV Tryz.prog X0 w0 (lnS 23 3 p0) fun a =>
 (lp2 X0 w0 (I 0) (.slice none 0 0) 8 3 fun b c d e g h =>
 rdV Tryz.prog h g (binOp .lss 3 d a) fun i =>
 (condW i
 ((rdV Tryz.prog h g (ixS 23 4 p0 d) fun j =>
 rdV Tryz.prog h g (ldA 53 4 j) fun k =>
 un (Value.agg (Value.cells k)) fun l =>
 chk (List.length (Array.toList (Value.cells k)) == 4) (chk (List.all (Array.toList (Value.cells k)) one) ((chk (isA l) (un (cellOf l 0) fun m =>
 eV Tryz.prog R h g true (bsS 36 9 1 1 #[(0, m)]) fun n o q =>
 eV Tryz.prog R q o true (apS 36 9 1 16 36 e n) fun r s t =>
 ((rdV Tryz.prog t s (binOp .add 3 d (I 1)) fun v =>
 nx2 b c v r s t))))))))
 (fin R h g e)))))
theorem ok_mvcc_writeKeys {R : Ending → World → Prop} {w0 : World} {p0 : Value} (h : vc_mvcc_writeKeys R w0 (old w0) p0) : Calls Tryz.prog 323 #[p0] w0 R :=
  calls_of_vc (pl := pl_mvcc_writeKeys) Tryz.func323 (by kernel_rfl) (by kernel_rfl) h
noncomputable def pl_num_Class : Plan := ⟨36, [], [], [0, 2, 3, 4, 5, 6, 14, 21, 24, 27, 32], [17, 18, 19], []⟩
def vc_num_Class (R : Ending → World → Prop) (w0 : World) (X0 : XS) (p0 : Nat) : Prop :=
 (eC Tryz.prog R X0 w0 true 225 #[(.float .f64 p0)] fun a b c =>
 (rdV Tryz.prog c b (binOp .shr 196 a (Value.int IntKind.u64 52)) fun d =>
 rdV Tryz.prog c b (binOp .and 196 d (Value.int IntKind.u64 2047)) fun e =>
 rdV Tryz.prog c b (binOp .and 196 a (Value.int IntKind.u64 4503599627370495)) fun g =>
 (((jn (fun (h : Value) =>
 (rdV Tryz.prog c b (binOp .and 196 a (Value.int IntKind.u64 9223372036854775808)) fun i =>
 rdV Tryz.prog c b (binS .neq 196 (.tmp 31) (.const (Value.int IntKind.u64 0)) i (Value.int IntKind.u64 0)) fun j =>
 (condW j
 (rdV Tryz.prog c b (binOp .sub 3 (I 9) h) fun k =>
 (fin R c b k))
 (fin R c b h)))) fun l =>
 rdV Tryz.prog c b (binS .eql 196 (.tmp 15) (.const (Value.int IntKind.u64 2047)) e (Value.int IntKind.u64 2047)) fun m =>
 un (gSel m true g) fun n =>
 grdW Tryz.prog c b m true (vS (binS .neq 196 (.tmp 18) (.const (Value.int IntKind.u64 0)) n (Value.int IntKind.u64 0))) fun o =>
 rdW Tryz.prog c b (pickN m o (B false)) fun q =>
 (condW q
 (fin R c b (I 0))
 (rdV Tryz.prog c b (binS .eql 196 (.tmp 22) (.const (Value.int IntKind.u64 2047)) e (Value.int IntKind.u64 2047)) fun r =>
 (condW r
 (l (I 8))
 (rdV Tryz.prog c b (binOp .gtr 196 e (Value.int IntKind.u64 0)) fun s =>
 (condW s
 (l (I 7))
 (rdV Tryz.prog c b (binOp .gtr 196 g (Value.int IntKind.u64 0)) fun t =>
 (condW t
 (l (I 6))
 (l (I 5))))))))))))))
theorem ok_num_Class {R : Ending → World → Prop} {w0 : World} {p0 : Nat} (h : vc_num_Class R w0 (old w0) p0) : Calls Tryz.prog 348 #[(.float .f64 p0)] w0 R :=
  calls_of_vc (pl := pl_num_Class) Tryz.func348 (by kernel_rfl) (by kernel_rfl) h
noncomputable def pl_mvcc_writes : Plan := ⟨9, [(2, (Tryz.prog.cellsOf 229))], [5], [0, 1, 3, 4], [], []⟩
def vc_mvcc_writes (R : Ending → World → Prop) (w0 : World) (X0 : XS) (_p0_0 _p0_1 _p0_2 _p0_3 _p0_4 _p0_5 : Int) (_p0_6 p0_7 : Value) (p1 : ByteArray) : Prop :=
 eV Tryz.prog R X0 w0 true (Instr.box 9 (.string p1)) fun a b c =>
 (rdV Tryz.prog c b (Instr.makeFunc (Fn.func 370) #[] #[a]) fun d =>
 eC Tryz.prog R c b true 369 #[p0_7, d] fun e g h =>
 (fin R h g e))
theorem ok_mvcc_writes {R : Ending → World → Prop} {w0 : World} {p0_0 p0_1 p0_2 p0_3 p0_4 p0_5 : Int} {p0_6 p0_7 : Value} {p1 : ByteArray} (h : vc_mvcc_writes R w0 (old w0) p0_0 p0_1 p0_2 p0_3 p0_4 p0_5 p0_6 p0_7 p1) : Calls Tryz.prog 350 #[(.agg #[(I p0_0), (I p0_1), (I p0_2), (I p0_3), (I p0_4), (I p0_5), p0_6, p0_7]), (.string p1)] w0 R :=
  calls_of_vc (pl := pl_mvcc_writes) Tryz.func350 (by kernel_rfl) (by kernel_rfl) h
noncomputable def pl_sink_Node_Step : Plan := ⟨92, [(2, (Tryz.prog.cellsOf 28)), (3, (Tryz.prog.cellsOf 48)), (4, (Tryz.prog.cellsOf 56)), (5, (Tryz.prog.cellsOf 29))], [17, 22, 26, 31, 35, 45, 55, 57, 59, 61, 70, 72, 74, 84], [0, 1, 7, 12, 30, 52, 68], [16, 18, 19, 21, 23, 24, 25, 27, 28, 29, 34, 36, 37, 38, 39, 40, 41, 42, 44, 46, 47, 48, 49, 50, 51], []⟩
def vc_sink_Node_Step (R : Ending → World → Prop) (w0 : World) (X0 : XS) (p0 : Value) (p1_0 p1_1 p1_2 p1_3 p1_4 p1_5 p1_6 p1_7 p1_8 p1_9 p1_10 p1_11 p1_12 p1_13 p1_14 : Int) (p1_15 : Bool) (p1_16 p1_17 : Int) (p1_18 p1_19 p1_20 p1_21 p1_22 p1_23 : Value) (p1_24 p1_25 : Int) (p1_26 p1_27 : Nat) (p1_28 p1_29 p1_30 p1_31 p1_32 p1_33 : Int) (p1_34 p1_35 : Value) : Prop :=
 chk (one p0) ((rdW Tryz.prog X0 w0 (nilN p0) fun a =>
 rdV Tryz.prog X0 w0 (fld 112 3 3 1 a) fun b =>
 rdV Tryz.prog X0 w0 (ld1 4 b) fun c =>
 (condW c
 ((fin R X0 w0 (Value.tuple #[(.slice none 0 0), (I 12)])))
 ((eC Tryz.prog R X0 w0 true 52 #[(.agg #[(I p1_0), (I p1_1), (I p1_2), (I p1_3), (I p1_4), (I p1_5), (I p1_6), (I p1_7), (I p1_8), (I p1_9), (I p1_10), (I p1_11), (I p1_12), (I p1_13), (I p1_14), (B p1_15), (I p1_16), (I p1_17), p1_18, p1_19, p1_20, p1_21, p1_22, p1_23, (I p1_24), (I p1_25), (.float .f64 p1_26), (.float .f64 p1_27), (I p1_28), (I p1_29), (I p1_30), (I p1_31), (I p1_32), (I p1_33), p1_34, p1_35])] fun d e g =>
 rdV Tryz.prog g e (binS .neq 29 (.tmp 14) (.const (I 0)) d (I 0)) fun h =>
 un (gSel h false (I p1_2)) fun i =>
 grdW Tryz.prog g e h false (vS (binS .neq 3 (.tmp 18) (.const (I 32)) i (I 32))) fun j =>
 rdW Tryz.prog g e (pickN h (B true) j) fun k =>
 un (gSel k false (I p1_0)) fun l =>
 grdW Tryz.prog g e k false (vS (binS .neq 3 (.tmp 23) (.const (I 12)) l (I 12))) fun m =>
 un (gSel k false m) fun n =>
 un (gSel n true (I p1_0)) fun o =>
 grdW Tryz.prog g e n true (vS (binS .neq 3 (.tmp 27) (.const (I 13)) o (I 13))) fun q =>
 grdW Tryz.prog g e k false (pickN n q (B false)) fun r =>
 rdW Tryz.prog g e (pickN k (B true) r) fun s =>
 (condW s
 ((fin R g e (Value.tuple #[(.slice none 0 0), (I 0)])))
 (((jn (fun (t : World) (v : XS) =>
 rdW Tryz.prog v t (nilN p0) fun y =>
 rdV Tryz.prog v t (fld 112 5 5 3 y) fun z =>
 rdV Tryz.prog v t (ldA 35 3 z) fun A =>
 un (cellOf A 0) fun C =>
 un (cellOf A 1) fun D =>
 un (cellOf A 2) fun E =>
 rdV Tryz.prog v t (bld 48 #[(I 14), (I 32), (I p1_1), (I 0), (I 0), (I 0), (I 0), (I 0), (I 0), C, D, E, (I 0), (I 0), (I 0), (B false), (I 0), (I 0), (.slice none 0 0), (.slice none 0 0), (.slice none 0 0), (.slice none 0 0), (.slice none 0 0), (.slice none 0 0), (I 0), (I 0), (.float .f64 0), (.float .f64 0), (I 0), (I 0), (I 0), (I 0), (I 0), (I 0), (.slice none 0 0), (.slice none 0 0)] #[(0, (I 14)), (1, (I 32)), (2, (I p1_1)), (7, A)]) fun F =>
 eV Tryz.prog R v t true (bsS 56 48 36 1 #[(0, F)]) fun G H L =>
 chk (one G) ((fin R L H (Value.tuple #[G, (I 0)])))) fun M =>
 rdV Tryz.prog g e (binS .eql 3 (.tmp 32) (.const (I 12)) (I p1_0) (I 12)) fun N =>
 un (gSel N true (.agg #[(I p1_9), (I p1_10), (I p1_11)])) fun O =>
 un (gSel N true p0) fun Q =>
 grdW Tryz.prog g e N true (nilN Q) fun S =>
 grdW Tryz.prog g e N true (vS (fld 112 5 5 3 S)) fun T =>
 grdW Tryz.prog g e N true (vS (ldA 35 3 T)) fun U =>
 jn (fun (V : Value) (Y : World) (Z : XS) =>
 grdW Tryz.prog Z Y N true (vS (binOp .gtr 3 V (I 0))) fun a0 =>
 rdW Tryz.prog Z Y (pickN N a0 (B false)) fun b0 =>
 un (gSel b0 true (.agg #[(I p1_12), (I p1_13), (I p1_14)])) fun c0 =>
 un (gSel b0 true p0) fun d0 =>
 grdW Tryz.prog Z Y b0 true (nilN d0) fun e0 =>
 grdW Tryz.prog Z Y b0 true (vS (fld 112 5 5 3 e0)) fun g0 =>
 grdW Tryz.prog Z Y b0 true (vS (ldA 35 3 g0)) fun h0 =>
 grdW Tryz.prog Z Y b0 true (vS (binS .eql 35 (.tmp 46) (.tmp 50) c0 h0)) fun i0 =>
 rdW Tryz.prog Z Y (pickN b0 i0 (B false)) fun j0 =>
 (condW j0
 (rdV Tryz.prog Z Y (bld 117 #[(I 11), (I p1_3), (I p1_4), (I p1_5), (I p1_9), (I p1_10), (I p1_11), (I p1_12), (I p1_13), (I p1_14), (B false), (I 0), (.float .f64 0), (.slice none 0 0), p1_20, (.slice none 0 0), (.slice none 0 0), (I 0), (I 0), (.float .f64 0), (.float .f64 0), (I 0), (I 0), (I 0), (I 0), (I 0), (I 0), (.slice none 0 0), (.slice none 0 0)] #[(0, (I 11)), (3, (.agg #[(I p1_12), (I p1_13), (I p1_14)])), (2, (.agg #[(I p1_9), (I p1_10), (I p1_11)])), (1, (.agg #[(I p1_3), (I p1_4), (I p1_5)])), (8, p1_20)]) fun k0 =>
 eC Tryz.prog R Z Y true 54 #[p0, k0] fun l0 m0 n0 =>
 rdV Tryz.prog n0 m0 (Instr.extract l0 0) fun _ =>
 rdV Tryz.prog n0 m0 (Instr.extract l0 1) fun o0 =>
 (rdV Tryz.prog n0 m0 (binS .eql 29 (.tmp 67) (.const (I 0)) o0 (I 0)) fun q0 =>
 (condW q0
 (eC Tryz.prog R n0 m0 true 55 #[p0, (.agg #[(I p1_3), (I p1_4), (I p1_5)]), (.agg #[(I p1_9), (I p1_10), (I p1_11)]), p1_20] fun _ r0 s0 =>
 (rdW Tryz.prog s0 r0 (nilN p0) fun t0 =>
 rdV Tryz.prog s0 r0 (fld 112 2 2 1 t0) fun v0 =>
 rdV Tryz.prog s0 r0 (ld1 3 v0) fun y0 =>
 rdV Tryz.prog s0 r0 (binOp .add 3 y0 (I 1)) fun z0 =>
 rdW Tryz.prog s0 r0 (nilN p0) fun A0 =>
 rdV Tryz.prog s0 r0 (fld 112 2 2 1 A0) fun C0 =>
 eU Tryz.prog R s0 r0 true (st1 3 1 C0 z0) fun _ D0 E0 =>
 (M D0 E0)))
 (M m0 n0))))
 (M Y Z))) fun F0 =>
 (gE N true (eC Tryz.prog R g e true 53 #[O, U] F0) (F0 undef e g)))))))))))
theorem ok_sink_Node_Step {R : Ending → World → Prop} {w0 : World} {p0 : Value} {p1_0 p1_1 p1_2 p1_3 p1_4 p1_5 p1_6 p1_7 p1_8 p1_9 p1_10 p1_11 p1_12 p1_13 p1_14 : Int} {p1_15 : Bool} {p1_16 p1_17 : Int} {p1_18 p1_19 p1_20 p1_21 p1_22 p1_23 : Value} {p1_24 p1_25 : Int} {p1_26 p1_27 : Nat} {p1_28 p1_29 p1_30 p1_31 p1_32 p1_33 : Int} {p1_34 p1_35 : Value} (hno : ∀ g, defG Tryz.f15 = some g → Idle Tryz.prog g) (hR : ∀ ch w, ¬ R (.panicked ch) w) (h : vc_sink_Node_Step R w0 (old w0) p0 p1_0 p1_1 p1_2 p1_3 p1_4 p1_5 p1_6 p1_7 p1_8 p1_9 p1_10 p1_11 p1_12 p1_13 p1_14 p1_15 p1_16 p1_17 p1_18 p1_19 p1_20 p1_21 p1_22 p1_23 p1_24 p1_25 p1_26 p1_27 p1_28 p1_29 p1_30 p1_31 p1_32 p1_33 p1_34 p1_35) : Calls Tryz.prog 15 #[p0, (.agg #[(I p1_0), (I p1_1), (I p1_2), (I p1_3), (I p1_4), (I p1_5), (I p1_6), (I p1_7), (I p1_8), (I p1_9), (I p1_10), (I p1_11), (I p1_12), (I p1_13), (I p1_14), (B p1_15), (I p1_16), (I p1_17), p1_18, p1_19, p1_20, p1_21, p1_22, p1_23, (I p1_24), (I p1_25), (.float .f64 p1_26), (.float .f64 p1_27), (I p1_28), (I p1_29), (I p1_30), (I p1_31), (I p1_32), (I p1_33), p1_34, p1_35])] w0 R :=
  calls_of_vcE (pl := pl_sink_Node_Step) Tryz.func15 (by kernel_rfl) hno hR (by kernel_rfl) h
theorem okP_sink_Node_Step {R : Ending → World → Prop} {RP : List PanicEntry → World → Prop} {g0 : FuncId} {cb : List Nat} {cv : List (Option Value)} {w0 : World} {p0 : Value} {p1_0 p1_1 p1_2 p1_3 p1_4 p1_5 p1_6 p1_7 p1_8 p1_9 p1_10 p1_11 p1_12 p1_13 p1_14 : Int} {p1_15 : Bool} {p1_16 p1_17 : Int} {p1_18 p1_19 p1_20 p1_21 p1_22 p1_23 : Value} {p1_24 p1_25 : Int} {p1_26 p1_27 : Nat} {p1_28 p1_29 p1_30 p1_31 p1_32 p1_33 : Int} {p1_34 p1_35 : Value} (hno : ∀ g, defG Tryz.f15 = some g → Idle Tryz.prog g) (hcap : cap0 Tryz.prog pl_sink_Node_Step Tryz.f15 #[p0, (.agg #[(I p1_0), (I p1_1), (I p1_2), (I p1_3), (I p1_4), (I p1_5), (I p1_6), (I p1_7), (I p1_8), (I p1_9), (I p1_10), (I p1_11), (I p1_12), (I p1_13), (I p1_14), (B p1_15), (I p1_16), (I p1_17), p1_18, p1_19, p1_20, p1_21, p1_22, p1_23, (I p1_24), (I p1_25), (.float .f64 p1_26), (.float .f64 p1_27), (I p1_28), (I p1_29), (I p1_30), (I p1_31), (I p1_32), (I p1_33), p1_34, p1_35])] = some (g0, cb, cv)) (htk : Takes Tryz.prog Tryz.f15 R g0 cb cv RP) (h : vc_sink_Node_Step (withP R RP) w0 (old w0) p0 p1_0 p1_1 p1_2 p1_3 p1_4 p1_5 p1_6 p1_7 p1_8 p1_9 p1_10 p1_11 p1_12 p1_13 p1_14 p1_15 p1_16 p1_17 p1_18 p1_19 p1_20 p1_21 p1_22 p1_23 p1_24 p1_25 p1_26 p1_27 p1_28 p1_29 p1_30 p1_31 p1_32 p1_33 p1_34 p1_35) : Calls Tryz.prog 15 #[p0, (.agg #[(I p1_0), (I p1_1), (I p1_2), (I p1_3), (I p1_4), (I p1_5), (I p1_6), (I p1_7), (I p1_8), (I p1_9), (I p1_10), (I p1_11), (I p1_12), (I p1_13), (I p1_14), (B p1_15), (I p1_16), (I p1_17), p1_18, p1_19, p1_20, p1_21, p1_22, p1_23, (I p1_24), (I p1_25), (.float .f64 p1_26), (.float .f64 p1_27), (I p1_28), (I p1_29), (I p1_30), (I p1_31), (I p1_32), (I p1_33), p1_34, p1_35])] w0 R :=
  calls_of_vcP (pl := pl_sink_Node_Step) Tryz.func15 (by kernel_rfl) hno hcap htk (by kernel_rfl) h
noncomputable def pl_sink_Node_Tick : Plan := ⟨52, [(1, (Tryz.prog.cellsOf 28)), (2, (Tryz.prog.cellsOf 29))], [], [0, 3, 5, 10, 40], [16, 17, 18, 19, 20, 21, 22, 23, 24, 25], []⟩
def vc_sink_Node_Tick (R : Ending → World → Prop) (w0 : World) (X0 : XS) (p0 : Value) : Prop :=
 chk (one p0) ((rdW Tryz.prog X0 w0 (nilN p0) fun a =>
 rdV Tryz.prog X0 w0 (fld 112 3 3 1 a) fun b =>
 rdV Tryz.prog X0 w0 (ld1 4 b) fun c =>
 (condW c
 (fin R X0 w0 (I 12))
 (rdW Tryz.prog X0 w0 (nilN p0) fun d =>
 rdV Tryz.prog X0 w0 (fld 112 1 1 1 d) fun e =>
 rdV Tryz.prog X0 w0 (ld1 3 e) fun g =>
 rdV Tryz.prog X0 w0 (binS .eql 3 (.tmp 14) (.const (I 0)) g (I 0)) fun h =>
 un (gSel h false p0) fun i =>
 grdW Tryz.prog X0 w0 h false (nilN i) fun j =>
 grdW Tryz.prog X0 w0 h false (vS (fld 112 2 2 1 j)) fun k =>
 grdW Tryz.prog X0 w0 h false (vS (ld1 3 k)) fun l =>
 grdW Tryz.prog X0 w0 h false (nilN i) fun m =>
 grdW Tryz.prog X0 w0 h false (vS (fld 112 1 1 1 m)) fun n =>
 grdW Tryz.prog X0 w0 h false (vS (ld1 3 n)) fun o =>
 grdW Tryz.prog X0 w0 h false (vS (binOp .lss 3 l o)) fun q =>
 rdW Tryz.prog X0 w0 (pickN h (B true) q) fun r =>
 (condW r
 (fin R X0 w0 (I 0))
 (((rdW Tryz.prog X0 w0 (nilN p0) fun s =>
 rdV Tryz.prog X0 w0 (fld 112 5 5 3 s) fun t =>
 rdV Tryz.prog X0 w0 (ldA 35 3 t) fun v =>
 eC Tryz.prog R X0 w0 false 14 #[p0] fun y z A =>
 un (cellOf v 0) fun C =>
 un (cellOf v 1) fun D =>
 un (cellOf v 2) fun E =>
 rdV Tryz.prog A z (bld 117 #[(I 12), (I 0), (I 0), (I 0), C, D, E, (I 0), (I 0), (I 0), (B false), (I 0), (.float .f64 0), (.slice none 0 0), (.slice none 0 0), (.slice none 0 0), y, (I 0), (I 0), (.float .f64 0), (.float .f64 0), (I 0), (I 0), (I 0), (I 0), (I 0), (I 0), (.slice none 0 0), (.slice none 0 0)] #[(0, (I 12)), (2, v), (10, y)]) fun F =>
 eC Tryz.prog R A z true 54 #[p0, F] fun G H L =>
 rdV Tryz.prog L H (Instr.extract G 0) fun M =>
 rdV Tryz.prog L H (Instr.extract G 1) fun N =>
 chk (one N) (((jn (fun (O : World) (Q : XS) =>
 (fin R Q O (I 0))) fun S =>
 rdV Tryz.prog L H (binS .eql 29 (.tmp 39) (.const (I 0)) N (I 0)) fun T =>
 (condW T
 (rdW Tryz.prog L H (nilN p0) fun U =>
 rdV Tryz.prog L H (fld 112 2 2 1 U) fun V =>
 eU Tryz.prog R L H true (st1 3 1 V (I 0)) fun _ Y Z =>
 (rdW Tryz.prog Z Y (nilN p0) fun a0 =>
 rdV Tryz.prog Z Y (fld 112 0 0 1 a0) fun b0 =>
 rdV Tryz.prog Z Y (ld1 107 b0) fun c0 =>
 eC Tryz.prog R Z Y true 58 #[c0, M] fun d0 e0 g0 =>
 eC Tryz.prog R g0 e0 true 57 #[p0, d0] fun _ h0 i0 =>
 (S h0 i0)))
 (S H L)))))))))))))
theorem ok_sink_Node_Tick {R : Ending → World → Prop} {w0 : World} {p0 : Value} (hno : ∀ g, defG Tryz.f16 = some g → Idle Tryz.prog g) (hR : ∀ ch w, ¬ R (.panicked ch) w) (h : vc_sink_Node_Tick R w0 (old w0) p0) : Calls Tryz.prog 16 #[p0] w0 R :=
  calls_of_vcE (pl := pl_sink_Node_Tick) Tryz.func16 (by kernel_rfl) hno hR (by kernel_rfl) h
theorem okP_sink_Node_Tick {R : Ending → World → Prop} {RP : List PanicEntry → World → Prop} {g0 : FuncId} {cb : List Nat} {cv : List (Option Value)} {w0 : World} {p0 : Value} (hno : ∀ g, defG Tryz.f16 = some g → Idle Tryz.prog g) (hcap : cap0 Tryz.prog pl_sink_Node_Tick Tryz.f16 #[p0] = some (g0, cb, cv)) (htk : Takes Tryz.prog Tryz.f16 R g0 cb cv RP) (h : vc_sink_Node_Tick (withP R RP) w0 (old w0) p0) : Calls Tryz.prog 16 #[p0] w0 R :=
  calls_of_vcP (pl := pl_sink_Node_Tick) Tryz.func16 (by kernel_rfl) hno hcap htk (by kernel_rfl) h
end Go.Proofs.YtpdkoaklobnegaaGreat
namespace Go.Proofs.YtpdkoaklobnegaaGreat
open Go.Eng
set_option maxRecDepth 100000
set_option maxHeartbeats 1000000
set_option linter.unusedVariables false
set_option linter.unusedSimpArgs false
abbrev BA := ByteArray
@[ext] structure Stamp where
  wall : Int
  logic : Int
  node : Int
  deriving DecidableEq
abbrev Stamp.l (s : Stamp) : List Value := [I s.wall, I s.logic, I s.node]
abbrev Stamp.v (s : Stamp) : Value := .agg #[I s.wall, I s.logic, I s.node]
abbrev Stamp.zero : Stamp := ⟨0, 0, 0⟩
@[ext] structure Txn where
  coord : Int
  life : Int
  sq : Int
  deriving DecidableEq
abbrev Txn.l (s : Txn) : List Value := [I s.coord, I s.life, I s.sq]
abbrev Txn.v (s : Txn) : Value := .agg #[I s.coord, I s.life, I s.sq]
abbrev Txn.zero : Txn := ⟨0, 0, 0⟩
@[ext] structure Val where
  kind : Int
  num : Nat
  text : BA
  deriving DecidableEq
abbrev Val.l (x : Val) : List Value := [I x.kind, .float .f64 x.num, .string x.text]
abbrev Val.v (x : Val) : Value := .agg #[I x.kind, .float .f64 x.num, .string x.text]
abbrev Val.zero : Val := ⟨0, 0, ⟨#[]⟩⟩
@[ext] structure KV where
  key : BA
  val : Val
  deriving DecidableEq
abbrev KV.l (x : KV) : List Value := [.string x.key, I x.val.kind, .float .f64 x.val.num, .string x.val.text]
abbrev KV.v (x : KV) : Value := .agg #[.string x.key, I x.val.kind, .float .f64 x.val.num, .string x.val.text]
abbrev S1 (x : BA) : List Value := [.string x]
abbrev I1 (x : Int) : List Value := [I x]
@[ext] structure Ver where
  stamp : Stamp
  val : Val
  deriving DecidableEq
abbrev Ver.l (x : Ver) : List Value := [I x.stamp.wall, I x.stamp.logic, I x.stamp.node, I x.val.kind, .float .f64 x.val.num, .string x.val.text]
@[ext] structure Hist where
  key : BA
  vers : List Ver
  deriving DecidableEq
abbrev Hist.l (h : Hist) (vv : Value) : List Value := [.string h.key, vv]
def Hist.rd (w : World) (X : XS) (l : List Value) (h : Hist) : Prop := ∃ vv, l = h.l vv ∧ Sl w X 6 vv (h.vers.map Ver.l)
@[ext] structure Pend where
  txn : Txn
  stamp : Stamp
  reads : List BA
  writes : List KV
  deriving DecidableEq
abbrev Pend.l (p : Pend) (vr vw : Value) : List Value := [I p.txn.coord, I p.txn.life, I p.txn.sq, I p.stamp.wall, I p.stamp.logic, I p.stamp.node, vr, vw]
abbrev Pend.v (p : Pend) (vr vw : Value) : Value := .agg #[I p.txn.coord, I p.txn.life, I p.txn.sq, I p.stamp.wall, I p.stamp.logic, I p.stamp.node, vr, vw]
def Pend.rd (w : World) (X : XS) (l : List Value) (p : Pend) : Prop := ∃ vr vw, l = p.l vr vw ∧ Sl w X 1 vr (p.reads.map S1) ∧ Sl w X 4 vw (p.writes.map KV.l)
@[ext] structure Rng where
  id : Int
  epoch : Int
  lo : Nat
  hi : Nat
  deriving DecidableEq
abbrev Rng.l (r : Rng) : List Value := [I r.id, I r.epoch, .float .f64 r.lo, .float .f64 r.hi]
abbrev Rng.v (r : Rng) : Value := .agg #[I r.id, I r.epoch, .float .f64 r.lo, .float .f64 r.hi]
@[ext] structure State where
  range : Rng
  floor : Stamp
  closed : Stamp
  hists : List Hist
  pend : List Pend
  deriving DecidableEq
abbrev State.l (s : State) (vh vp : Value) : List Value := [I s.range.id, I s.range.epoch, .float .f64 s.range.lo, .float .f64 s.range.hi,
  I s.floor.wall, I s.floor.logic, I s.floor.node, I s.closed.wall, I s.closed.logic, I s.closed.node, vh, vp]
abbrev State.v (s : State) (vh vp : Value) : Value := .agg #[I s.range.id, I s.range.epoch, .float .f64 s.range.lo, .float .f64 s.range.hi,
  I s.floor.wall, I s.floor.logic, I s.floor.node, I s.closed.wall, I s.closed.logic, I s.closed.node, vh, vp]
abbrev Hists (w : World) (X : XS) (v : Value) (l : List Hist) : Prop := Rws w X 2 v Hist.rd l
abbrev Pends (w : World) (X : XS) (v : Value) (l : List Pend) : Prop := Rws w X 8 v Pend.rd l
def State.rd (w : World) (X : XS) (l : List Value) (s : State) : Prop := ∃ vh vp, l = s.l vh vp ∧ Hists w X vh s.hists ∧ Pends w X vp s.pend
@[ext] structure Rec where
  kind : Int
  txn : Txn
  stamp : Stamp
  prev : Stamp
  commit : Bool
  n : Int
  point : Nat
  reads : List BA
  writes : List KV
  parts : List Int
  pairs : List KV
  state : State
  deriving DecidableEq
abbrev Rec.l (r : Rec) (vr vw vp vq vh vd : Value) : List Value := [I r.kind, I r.txn.coord, I r.txn.life, I r.txn.sq, I r.stamp.wall, I r.stamp.logic, I r.stamp.node,
  I r.prev.wall, I r.prev.logic, I r.prev.node, B r.commit, I r.n, .float .f64 r.point, vr, vw, vp, vq, I r.state.range.id, I r.state.range.epoch, .float .f64 r.state.range.lo, .float .f64 r.state.range.hi,
  I r.state.floor.wall, I r.state.floor.logic, I r.state.floor.node, I r.state.closed.wall, I r.state.closed.logic, I r.state.closed.node, vh, vd]
abbrev Rec.v (r : Rec) (vr vw vp vq vh vd : Value) : Value := .agg #[I r.kind, I r.txn.coord, I r.txn.life, I r.txn.sq, I r.stamp.wall, I r.stamp.logic, I r.stamp.node,
  I r.prev.wall, I r.prev.logic, I r.prev.node, B r.commit, I r.n, .float .f64 r.point, vr, vw, vp, vq, I r.state.range.id, I r.state.range.epoch, .float .f64 r.state.range.lo, .float .f64 r.state.range.hi,
  I r.state.floor.wall, I r.state.floor.logic, I r.state.floor.node, I r.state.closed.wall, I r.state.closed.logic, I r.state.closed.node, vh, vd]
def Rec.at (w : World) (X : XS) (r : Rec) (vr vw vp vq vh vd : Value) : Prop :=
  Sl w X 1 vr (r.reads.map S1) ∧ Sl w X 4 vw (r.writes.map KV.l) ∧ Sl w X 1 vp (r.parts.map I1) ∧ Sl w X 4 vq (r.pairs.map KV.l) ∧ Hists w X vh r.state.hists ∧ Pends w X vd r.state.pend
def Rec.rd (w : World) (X : XS) (l : List Value) (r : Rec) : Prop := ∃ vr vw vp vq vh vd, l = r.l vr vw vp vq vh vd ∧ r.at w X vr vw vp vq vh vd
theorem Hist.mv : Moves Hist.rd := fun ⟨vv, h, h1⟩ m => ⟨vv, h, h1.mv m⟩
theorem Pend.mv : Moves Pend.rd := fun ⟨vr, vw, h, h1, h2⟩ m => ⟨vr, vw, h, h1.mv m, h2.mv m⟩
theorem Hists.mv {w w' : World} {X Y : XS} {v : Value} {l : List Hist} (h : Hists w X v l) (m : Mv X w Y w') : Hists w' Y v l := Rws.mv h Hist.mv m
theorem Pends.mv {w w' : World} {X Y : XS} {v : Value} {l : List Pend} (h : Pends w X v l) (m : Mv X w Y w') : Pends w' Y v l := Rws.mv h Pend.mv m
theorem State.mv : Moves State.rd := fun ⟨vh, vp, h, h1, h2⟩ m => ⟨vh, vp, h, Rws.mv h1 Hist.mv m, Rws.mv h2 Pend.mv m⟩
theorem Rec.at.mv {w w' : World} {X Y : XS} {r : Rec} {vr vw vp vq vh vd : Value} (h : r.at w X vr vw vp vq vh vd) (m : Mv X w Y w') : r.at w' Y vr vw vp vq vh vd :=
  ⟨h.1.mv m, h.2.1.mv m, h.2.2.1.mv m, h.2.2.2.1.mv m, Rws.mv h.2.2.2.2.1 Hist.mv m, Rws.mv h.2.2.2.2.2 Pend.mv m⟩
theorem Rec.mv : Moves Rec.rd := fun ⟨vr, vw, vp, vq, vh, vd, h, h1⟩ m => ⟨vr, vw, vp, vq, vh, vd, h, h1.mv m⟩
section
variable {P : Program} {X X0 : XS} {w w0 : World} {N : Value → Prop}
theorem m_ixP {t : TypeId} {v : Value} {xs : List Pend} {i : Nat} {z : Int} {x : Pend} (h : Pends w0 X0 v xs) (hr : xs[i]? = some x)
    (hz : z = i) (ht : P.underlying t = some (.slice (P.elem t))) (hs : (P.info? (P.elem t)).map (·.size) = some 8)
    (n : ∀ b o vr vw, one vr = true → one vw = true → Cells w0 X0 b o (x.l vr vw) → Sl w0 X0 1 vr (x.reads.map S1) → Sl w0 X0 4 vw (x.writes.map KV.l) → N (ptr b o)) : rdV P X w (ixS t 8 v (.int .i64 z)) N :=
  m_ixR h hr hz ht hs fun b o _ hc ⟨vr, vw, hl, h1, h2⟩ => n b o vr vw h1.one h2.one (hl ▸ hc) h1 h2
theorem m_ixH {t : TypeId} {v : Value} {xs : List Hist} {i : Nat} {z : Int} {x : Hist} (h : Hists w0 X0 v xs) (hr : xs[i]? = some x)
    (hz : z = i) (ht : P.underlying t = some (.slice (P.elem t))) (hs : (P.info? (P.elem t)).map (·.size) = some 2)
    (n : ∀ b o vv, one vv = true → Cells w0 X0 b o (x.l vv) → Sl w0 X0 6 vv (x.vers.map Ver.l) → N (ptr b o)) : rdV P X w (ixS t 2 v (.int .i64 z)) N :=
  m_ixR h hr hz ht hs fun b o _ hc ⟨vv, hl, h1⟩ => n b o vv h1.one (hl ▸ hc) h1
theorem m_ixRec {t : TypeId} {v : Value} {xs : List Rec} {i : Nat} {z : Int} {x : Rec} (h : Rws w0 X0 29 v Rec.rd xs) (hr : xs[i]? = some x)
    (hz : z = i) (ht : P.underlying t = some (.slice (P.elem t))) (hs : (P.info? (P.elem t)).map (·.size) = some 29)
    (n : ∀ b o vr vw vp vq vh vd, one vr = true → one vw = true → one vp = true → one vq = true → one vh = true → one vd = true →
      Cells w0 X0 b o (x.l vr vw vp vq vh vd) → x.at w0 X0 vr vw vp vq vh vd → N (ptr b o)) : rdV P X w (ixS t 29 v (.int .i64 z)) N :=
  m_ixR h hr hz ht hs fun b o _ hc ⟨vr, vw, vp, vq, vh, vd, hl, h1⟩ => n b o vr vw vp vq vh vd h1.1.one h1.2.1.one h1.2.2.1.one h1.2.2.2.1.one h1.2.2.2.2.1.one h1.2.2.2.2.2.one (hl ▸ hc) h1
theorem r_eqS {t : TypeId} {xo yo : Operand} (a b : Stamp) (h : intStruct P t 3 = true) (hT : a = b → N (.bool true)) (hF : ¬ a = b → N (.bool false)) :
    rdV P X w (binS .eql t xo yo a.v b.v) N := r_eql3 h (fun h1 h2 h3 => hT (Stamp.ext h1 h2 h3)) fun hn => hF fun e => hn (by subst e; exact ⟨rfl, rfl, rfl⟩)
theorem r_neS {t : TypeId} {xo yo : Operand} (a b : Stamp) (h : intStruct P t 3 = true) (hT : ¬ a = b → N (.bool true)) (hF : a = b → N (.bool false)) :
    rdV P X w (binS .neq t xo yo a.v b.v) N := r_neq3 h (fun hn => hT fun e => hn (by subst e; exact ⟨rfl, rfl, rfl⟩)) fun h1 h2 h3 => hF (Stamp.ext h1 h2 h3)
theorem r_eqS0 {t : TypeId} {xo yo : Operand} (a : Stamp) (h : intStruct P t 3 = true) (hT : a = .zero → N (.bool true)) (hF : ¬ a = .zero → N (.bool false)) :
    rdV P X w (binS .eql t xo yo a.v (.agg #[I 0, I 0, I 0])) N := r_eqS a .zero h hT hF
theorem r_neS0 {t : TypeId} {xo yo : Operand} (a : Stamp) (h : intStruct P t 3 = true) (hT : ¬ a = .zero → N (.bool true)) (hF : a = .zero → N (.bool false)) :
    rdV P X w (binS .neq t xo yo a.v (.agg #[I 0, I 0, I 0])) N := r_neS a .zero h hT hF
theorem r_eqT {t : TypeId} {xo yo : Operand} (a b : Txn) (h : intStruct P t 3 = true) (hT : a = b → N (.bool true)) (hF : ¬ a = b → N (.bool false)) :
    rdV P X w (binS .eql t xo yo a.v b.v) N := r_eql3 h (fun h1 h2 h3 => hT (Txn.ext h1 h2 h3)) fun hn => hF fun e => hn (by subst e; exact ⟨rfl, rfl, rfl⟩)
theorem r_eqT0 {t : TypeId} {xo yo : Operand} (a : Txn) (h : intStruct P t 3 = true) (hT : a = .zero → N (.bool true)) (hF : ¬ a = .zero → N (.bool false)) :
    rdV P X w (binS .eql t xo yo a.v (.agg #[I 0, I 0, I 0])) N := r_eqT a .zero h hT hF
end
def lim : Nat := 2 ^ 20
def Pend.small (p : Pend) : Prop := p.reads.length ≤ lim ∧ p.writes.length ≤ lim
end Go.Proofs.YtpdkoaklobnegaaGreat
namespace Go.Proofs.YtpdkoaklobnegaaGreat
open Go.Eng
set_option maxRecDepth 100000
set_option maxHeartbeats 1000000
set_option linter.unusedVariables false
set_option linter.unusedSimpArgs false
attribute [local irreducible] un jn chk fld ld1 ldA st1 ixS lnS lnT bld cvI cvF ixA bsS apS rdV rdW grdW eW eV eU eC eF gE condW fin pickN nilN binS vS lp0 lp1 lp2 lp3 lp4 lp5 lp6 lp7 nx0 nx1 nx2 nx3 nx4 nx5 nx6 nx7
def Stamp.cmp (a b : Stamp) : Int :=
  let p := if a.wall ≠ b.wall then (a.wall, b.wall) else if a.logic ≠ b.logic then (a.logic, b.logic) else (a.node, b.node)
  if p.1 < p.2 then -1 else if p.1 > p.2 then 1 else 0
def Txn.less (a b : Txn) : Bool :=
  if a.coord ≠ b.coord then a.coord < b.coord else if a.life ≠ b.life then a.life < b.life else a.sq < b.sq
def Txn.may (a : Txn) : Bool := a.coord ≥ 1 && a.coord ≤ 2 && a.life ≥ 1 && a.sq ≥ 1
def Stamp.may (a : Stamp) : Bool := a.wall ≥ 0 && a.wall ≤ 281474976710656 && a.logic ≥ 0 && a.logic ≤ 65535 && a.node ≥ 0 && a.node ≤ 63
def Stamp.moment (a : Stamp) : Bool := a.may && !decide (a = .zero)
theorem c_hlc_Compare (a b : Stamp) : Pure Tryz.prog 53 #[a.v, b.v] (I (a.cmp b)) := by
  intro w0
  apply ok_hlc_Compare; unfold vc_hlc_Compare
  have hs := Since.init w0
  repeat' first | with_reducible (first | apply condW_T | apply condW_F) | (with_reducible apply r_lss <;> intro _) | (with_reducible apply r_neq <;> intro _) | (with_reducible apply r_gtr <;> intro _) | with_reducible apply jn_of | ((with_reducible refine fin_pure hs ?_); simp_all [Stamp.cmp] <;> omega)
theorem c_mvcc_TxnMay (a : Txn) : Pure Tryz.prog 238 #[a.v] (B a.may) := by
  intro w0
  apply ok_mvcc_TxnMay; unfold vc_mvcc_TxnMay
  have hs := Since.init w0
  repeat' first | with_reducible (first | apply un_selT | apply un_selFT | apply grdV_onT | apply grdW_offT | apply rdW_pickT | apply rdW_pickF) | (with_reducible apply r_leq <;> intro _) | (with_reducible apply r_geq <;> intro _) | ((with_reducible refine fin_pure hs ?_); simp_all [Txn.may] <;> omega)
theorem c_hlc_May (a : Stamp) : Pure Tryz.prog 165 #[a.v] (B a.may) := by
  intro w0
  apply ok_hlc_May; unfold vc_hlc_May
  have hs := Since.init w0
  repeat' first | with_reducible (first | apply un_selT | apply un_selFT | apply grdV_onT | apply grdW_offT | apply rdW_pickT | apply rdW_pickF) | (with_reducible apply r_leq <;> intro _) | (with_reducible apply r_geq <;> intro _) | ((with_reducible refine fin_pure hs ?_); simp_all [Stamp.may] <;> omega)
theorem c_recs_ranges (n : Int) : Pure Tryz.prog 301 #[I n] (B (decide (n ≥ 1) && decide (n ≤ 12))) := by
  intro w0
  apply ok_recs_ranges; unfold vc_recs_ranges
  have hs := Since.init w0
  repeat' first | with_reducible (first | apply un_selT | apply un_selFT | apply grdV_onT | apply grdW_offT | apply rdW_pickT | apply rdW_pickF) | (with_reducible apply r_leq <;> intro _) | (with_reducible apply r_geq <;> intro _) | ((with_reducible refine fin_pure hs ?_); simp_all <;> omega)
theorem c_recs_moment (a : Stamp) : Pure Tryz.prog 302 #[a.v] (B a.moment) := by
  intro w0
  apply ok_recs_moment; unfold vc_recs_moment
  have hs := Since.init w0
  repeat' first | with_reducible (first | apply un_selT | apply un_selFT | apply grdV_onT | apply grdW_offT | apply rdW_pickT | apply rdW_pickF) | ((with_reducible apply r_bld); (· kernel_rfl)) | ((with_reducible refine r_neS0 _ ?_ ?_ ?_); (· kernel_rfl); all_goals intros) | ((with_reducible refine r_pureB (c_hlc_May _) ?_ hs.has ?_ ?_); (· kernel_rfl); all_goals (intro _ w X hs1; replace hs := hs.trans hs1)) | ((with_reducible refine fin_pure hs ?_); simp_all [Stamp.moment])
def Stamp.decided (c : Bool) (a : Stamp) : Bool := if c then a.moment else decide (a = .zero)
theorem c_recs_decided (c : Bool) (a : Stamp) : Pure Tryz.prog 299 #[B c, a.v] (B (a.decided c)) := by
  intro w0
  apply ok_recs_decided; unfold vc_recs_decided
  have hs := Since.init w0
  repeat' first | ((with_reducible apply r_bld); (· kernel_rfl)) | ((with_reducible refine r_eqS0 _ ?_ ?_ ?_); (· kernel_rfl); all_goals intros) | (with_reducible apply condW_b <;> intro _) | ((with_reducible refine r_pureB (c_recs_moment _) ?_ hs.has ?_ ?_); (· kernel_rfl); all_goals (intro _ w X hs1; replace hs := hs.trans hs1)) | ((with_reducible refine fin_pure hs ?_); simp_all [Stamp.decided])
theorem run_bits (x : Nat) (wa : World) : (callFunc 111 #[.float .f64 x]).run Tryz.prog wa = .ok (.value (.int .u64 x)) wa := by kernel_rfl
theorem c_raceref_Bits (a b : Nat) : Pure Tryz.prog 63 #[.float .f64 a, .float .f64 b] (B (decide (a = b))) := by
  intro w0
  apply ok_raceref_Bits; unfold vc_raceref_Bits
  have hs := Since.init w0
  repeat' first | (with_reducible apply r_eql <;> intro _) | ((with_reducible refine fin_pure hs ?_); simp_all [Int.ofNat_inj]) | ((with_reducible refine eC_val (run_bits _) hs.has ?_); intro w X hs1; replace hs := hs.trans hs1)
theorem c_raceref_Value (a b : Val) : Pure Tryz.prog 25 #[a.v, b.v] (B (decide (a = b))) := by
  intro w0
  apply ok_raceref_Value; unfold vc_raceref_Value
  have hs := Since.init w0
  repeat' first | with_reducible (first | apply un_selT | apply un_selFT | apply grdV_onT | apply grdW_offT | apply rdW_pickT | apply rdW_pickF | apply gE_T | apply gE_FT) | (with_reducible apply r_eql <;> intro _) | (with_reducible apply r_seql <;> intro _) | with_reducible apply jn_of | ((with_reducible refine r_pureB (c_raceref_Bits _ _) ?_ hs.has ?_ ?_); (· kernel_rfl); all_goals (intro _ w X hs1; replace hs := hs.trans hs1)) | ((with_reducible refine fin_pure hs ?_); simp_all [Val.ext_iff])
end Go.Proofs.YtpdkoaklobnegaaGreat
namespace Go.Proofs.YtpdkoaklobnegaaGreat
open Go.Eng
set_option maxRecDepth 100000
set_option maxHeartbeats 1000000
set_option linter.unusedVariables false
set_option linter.unusedSimpArgs false
attribute [local irreducible] un jn chk fld ld1 ldA st1 ixS lnS lnT bld cvI cvF ixA bsS apS rdV rdW grdW eW eV eU eC eF gE condW fin pickN nilN binS vS lp0 lp1 lp2 lp3 lp4 lp5 lp6 lp7 nx0 nx1 nx2 nx3 nx4 nx5 nx6 nx7
theorem d_raceref_Pairs {w : World} {X : XS} {a b : Value} {xs ys : List KV} (ha : Sl w X 4 a (xs.map KV.l)) (hb : Sl w X 4 b (ys.map KV.l)) :
    Ct Tryz.prog 18 #[a, b] w X nX fun v _ _ => v = B (decide (xs = ys)) := by
    intro w0 hk
    replace ha := ha.mv hk.mvo
    replace hb := hb.mv hk.mvo
    have hla := ha.len'
    apply ok_raceref_Pairs; unfold vc_raceref_Pairs
    have hs := Since.init w0
    repeat' first | with_reducible (first | apply condW_T | apply condW_F) | (with_reducible apply r_neq <;> intro _) | ((with_reducible apply m_lnS); (· exact qO); (· kernel_rfl)) | ((first | (with_reducible refine fin_ret0 hs ?_) | (with_reducible refine fin_ret0 (hs0.trans hs) ?_)); intro wa hk; (simp only [B, Value.bool.injEq]; symm; rw [decide_eq_false_iff_not]; rintro rfl; omega))
    have hlen : xs.length = ys.length := by omega
    refine lp1_of (fun n a w X => ∃ i : Nat, a = I (i : Nat) ∧ n = (xs).length - i ∧ i ≤ (xs).length ∧ Since (old w0) w0 X w ∧ (xs = ys ↔ xs.drop i = ys.drop i)) (xs).length ⟨0, rfl, rfl, Nat.zero_le _, hs, by simp⟩ ?_
    rintro n a w X ⟨i, rfl, rfl, hi, hs, hw⟩
    rcases at_or (xs) i with ⟨hlt, x, hx, hd⟩ | ⟨hge, hd⟩
    · obtain ⟨y, hy, hdy⟩ := at_drop (xs := ys) (i := i) (by omega)
      repeat' first | ((with_reducible refine r_lssT ?_ ?_); (· omega)) | with_reducible (first | apply condW_T | apply condW_F | apply un_selF | apply un_selTF | apply grdV_onF | apply grdW_offF | apply rdW_pickT | apply rdW_pickF | apply gE_F | apply gE_TF | apply r_notT | apply r_notF) | (with_reducible apply r_sneq <;> intro _) | ((with_reducible apply m_fld1); (· exact qF); (· kernel_rfl); (· rfl); intro _ _ _) | ((with_reducible apply m_fld); (· exact qF); (· kernel_rfl); (· rfl); (· exact qN); intro _ _ _) | ((with_reducible apply m_ld1); (· exact qF); (· exact qM); (· kernel_rfl); (· rfl)) | ((with_reducible apply m_ldA); (· exact qF); (· exact qM); (· kernel_rfl); (· rfl)) | ((with_reducible apply m_lnS); (· exact qO); (· kernel_rfl)) | ((with_reducible apply m_ixS); (· exact qO); (try (case hz => rfl)); (case hr => exact qR); (try (case hz => omega)); (case ht => kernel_rfl); (case hs => kernel_rfl); intro _ _ _) | ((with_reducible apply r_add); (· omega); (· omega)) | with_reducible apply jn_of | ((with_reducible refine r_pureB (c_raceref_Value _ _) ?_ hs.has ?_ ?_); (· kernel_rfl); all_goals (intro _ w X hs1; replace hs := hs.trans hs1)) | ((first | (with_reducible refine fin_ret0 hs ?_) | (with_reducible refine fin_ret0 (hs0.trans hs) ?_)); intro wa hk; (simp_all [KV.ext_iff, Val.ext_iff])) | ((with_reducible refine nx1_of ((xs).length - (i + 1)) ?_ ?_); (· omega); exact ⟨i + 1, by simp, rfl, by omega, hs, by simp_all [KV.ext_iff, Val.ext_iff]⟩)
    · have hdy := List.drop_of_length_le (l := ys) (i := i) (by omega)
      repeat' first | ((with_reducible refine r_lssF ?_ ?_); (· omega)) | with_reducible apply condW_F | ((with_reducible apply m_lnS); (· exact qO); (· kernel_rfl)) | ((first | (with_reducible refine fin_ret0 hs ?_) | (with_reducible refine fin_ret0 (hs0.trans hs) ?_)); intro wa hk; simp_all)
end Go.Proofs.YtpdkoaklobnegaaGreat
namespace Go.Proofs.YtpdkoaklobnegaaGreat
open Go.Eng
set_option maxRecDepth 100000
set_option maxHeartbeats 1000000
set_option linter.unusedVariables false
set_option linter.unusedSimpArgs false
attribute [local irreducible] un jn chk fld ld1 ldA st1 ixS lnS lnT bld cvI cvF ixA bsS apS rdV rdW grdW eW eV eU eC eF gE condW fin pickN nilN binS vS lp0 lp1 lp2 lp3 lp4 lp5 lp6 lp7 nx0 nx1 nx2 nx3 nx4 nx5 nx6 nx7
abbrev AnInt : Value → World → World → Prop := fun v _ _ => ∃ n : Int, v = I n
theorem d_raceref_few (a b c : Int) (w : World) (X : XS) : Ct Tryz.prog 40 #[I a, I b, I c] w X nX AnInt := by
  intro w0 hk
  apply ok_raceref_few; unfold vc_raceref_few
  have hs := Since.init w0
  repeat' first | with_reducible (first | apply condW_T | apply condW_F | apply un_selF | apply un_selTF | apply grdV_onF | apply grdW_offF | apply rdW_pickT | apply rdW_pickF) | (with_reducible apply r_gtr <;> intro _) | ((first | (with_reducible refine fin_ret0 hs ?_) | (with_reducible refine fin_ret0 (hs0.trans hs) ?_)); intro wa hk; exact ⟨_, rfl⟩) | with_reducible apply rdV_add
theorem d_raceref_WeighTexts {w : World} {X : XS} {a : Value} {xs : List BA} {most : Int} (ha : Sl w X 1 a (xs.map S1)) :
    Ct Tryz.prog 23 #[a, I most] w X nX AnInt := by
  intro w0 hk
  replace ha := ha.mv hk.mvo
  have hla := ha.len'
  apply ok_raceref_WeighTexts; unfold vc_raceref_WeighTexts
  have hs := Since.init w0
  refine lp2_of (fun n a b w X => ∃ (i : Nat) (s : Int), a = I i ∧ b = I s ∧ n = (xs).length - i ∧ i ≤ (xs).length ∧ Since (old w0) w0 X w) (xs).length ⟨0, _, rfl, rfl, rfl, Nat.zero_le _, hs⟩ ?_
  rintro n a b w X ⟨i, s, rfl, rfl, rfl, hi, hs⟩
  repeat' first | with_reducible (first | apply condW_T | apply condW_F | apply un_selT | apply un_selFT | apply grdV_onT | apply grdW_offT | apply rdW_pickT | apply rdW_pickF) | (with_reducible apply r_lss <;> intro _) | (with_reducible apply r_leq <;> intro _) | ((with_reducible apply m_ld1); (· exact qF); (· exact qM); (· kernel_rfl); (· rfl)) | ((with_reducible apply m_lnS); (· exact qO); (· kernel_rfl)) | ((with_reducible apply r_lnT); (· kernel_rfl)) | ((with_reducible apply m_ixS); (· exact qO); (try (case hz => rfl)); (case hr => exact qR); (try (case hz => omega)); (case ht => kernel_rfl); (case hs => kernel_rfl); intro _ _ _) | ((with_reducible apply r_add); (· omega); (· omega)) | ((first | (with_reducible refine fin_ret0 hs ?_) | (with_reducible refine fin_ret0 (hs0.trans hs) ?_)); intro wa hk; exact ⟨_, rfl⟩) | (refine r_ct0I (d_raceref_few  _ _ _ _ _) (by kernel_rfl) hs.has ?_; intro n1 w X hs1; replace hs := hs.trans hs1) | ((with_reducible refine nx2_of ((xs).length - (i + 1)) ?_ ?_); (· omega); exact ⟨i + 1, _, by simp, rfl, rfl, by omega, hs⟩) | with_reducible apply rdV_add
end Go.Proofs.YtpdkoaklobnegaaGreat
namespace Go.Proofs.YtpdkoaklobnegaaGreat
open Go.Eng
set_option maxRecDepth 100000
set_option maxHeartbeats 1000000
set_option linter.unusedVariables false
set_option linter.unusedSimpArgs false
attribute [local irreducible] un jn chk fld ld1 ldA st1 ixS lnS lnT bld cvI cvF ixA bsS apS rdV rdW grdW eW eV eU eC eF gE condW fin pickN nilN binS vS lp0 lp1 lp2 lp3 lp4 lp5 lp6 lp7 nx0 nx1 nx2 nx3 nx4 nx5 nx6 nx7
def goodKey (s : BA) : Bool := decide ((s.size : Int) ≥ 1) && decide ((s.size : Int) ≤ 24)
theorem c_datum_Key (s : BA) : Pure Tryz.prog 312 #[.string s] (B (goodKey s)) := by
  intro w0
  apply ok_datum_Key; unfold vc_datum_Key
  have hs := Since.init w0
  repeat' first | with_reducible (first | apply un_selT | apply un_selFT | apply grdV_onT | apply grdW_offT | apply rdW_pickT | apply rdW_pickF) | (with_reducible apply r_leq <;> intro _) | (with_reducible apply r_geq <;> intro _) | ((with_reducible apply r_lnT); (· kernel_rfl)) | ((with_reducible refine fin_pure hs ?_); simp_all [goodKey] <;> omega)
theorem c_place_In (r : Rng) (x : Nat) : Pure Tryz.prog 248 #[r.v, .float .f64 x] (B ((fgt x r.lo || feq x r.lo) && flt x r.hi)) := by
  intro w0
  apply ok_place_In; unfold vc_place_In
  have hs := Since.init w0
  repeat' first | with_reducible (first | apply un_selT | apply un_selFT | apply grdV_onT | apply grdW_offT | apply rdW_pickT | apply rdW_pickF) | (with_reducible apply r_flss <;> intro _) | (with_reducible apply r_fgeq <;> intros) | ((with_reducible refine fin_pure hs ?_); (simp_all <;> grind))
def canon (x : Nat) : Nat := if feq x x then x else 9221120237041090560
theorem c_num_Canon (x : Nat) : Pure Tryz.prog 304 #[.float .f64 x] (.float .f64 (canon x)) := by
  intro w0
  apply ok_num_Canon; unfold vc_num_Canon
  have hs := Since.init w0
  repeat' first | with_reducible (first | apply condW_T | apply condW_F) | (with_reducible apply r_fneq <;> intro _) | ((with_reducible refine fin_pure hs ?_); simp_all [canon]) | ((with_reducible refine eC_val (v := .float .f64 9221120237041090560) ?_ hs.has ?_); (· intro wa; kernel_rfl); intro w X hs1; replace hs := hs.trans hs1)
theorem c_num_Bits (x : Nat) : Pure Tryz.prog 225 #[.float .f64 x] (.int .u64 (canon x)) := by
  intro w0
  apply ok_num_Bits; unfold vc_num_Bits
  have hs := Since.init w0
  repeat' first | ((with_reducible refine r_pure (c_num_Canon _) ?_ hs.has ?_); (· kernel_rfl); intro w X hs1; replace hs := hs.trans hs1) | ((with_reducible refine fin_pure hs ?_); rfl) | ((with_reducible refine eC_val (run_bits _) hs.has ?_); intro w X hs1; replace hs := hs.trans hs1)
def land (a b : Int) : Int := IntKind.u64.wrap (BitVec.ofInt IntKind.u64.bits a &&& BitVec.ofInt IntKind.u64.bits b).toNat
def ixor (a b : Int) : Int := IntKind.u64.wrap (BitVec.ofInt IntKind.u64.bits a ^^^ BitVec.ofInt IntKind.u64.bits b).toNat
def ishr (a n : Int) : Int := a.fdiv (2 ^ min n.toNat IntKind.u64.bits)
def imul (a b : Int) : Int := IntKind.u64.wrap (a * b)
theorem r_land {P : Program} {X : XS} {w : World} {N : Value → Prop} {t : TypeId} {a b : Int} (h : N (.int .u64 (land a b))) : rdV P X w (binOp .and t (.int .u64 a) (.int .u64 b)) N := rdV_and h
theorem r_ixor {P : Program} {X : XS} {w : World} {N : Value → Prop} {t : TypeId} {a b : Int} (h : N (.int .u64 (ixor a b))) : rdV P X w (binOp .xor t (.int .u64 a) (.int .u64 b)) N := rdV_xor h
theorem r_ishr {P : Program} {X : XS} {w : World} {N : Value → Prop} {t : TypeId} {a b : Int} (hb : ¬ b < 0) (h : N (.int .u64 (ishr a b))) : rdV P X w (binOp .shr t (.int .u64 a) (.int .u64 b)) N := rdV_shr hb h
theorem r_imul {P : Program} {X : XS} {w : World} {N : Value → Prop} {t : TypeId} {a b : Int} (h : N (.int .u64 (imul a b))) : rdV P X w (binOp .mul t (.int .u64 a) (.int .u64 b)) N := rdV_mul h
def cls (x : Nat) : Int :=
  let b : Int := canon x
  let e := land (ishr b 52) 2047
  let f := land b 4503599627370495
  if e = 2047 ∧ f ≠ 0 then 0 else
    let k := if e = 2047 then 8 else if e > 0 then 7 else if f > 0 then 6 else 5
    if land b 9223372036854775808 ≠ 0 then 9 - k else k
theorem c_num_Class (x : Nat) : Pure Tryz.prog 348 #[.float .f64 x] (I (cls x)) := by
  intro w0
  apply ok_num_Class; unfold vc_num_Class
  have hs := Since.init w0
  repeat' first | with_reducible (first | apply condW_T | apply condW_F | apply un_selT | apply un_selFT | apply grdV_onT | apply grdW_offT | apply rdW_pickT | apply rdW_pickF) | (with_reducible apply r_eql <;> intro _) | (with_reducible apply r_neq <;> intro _) | (with_reducible apply r_gtr <;> intro _) | ((with_reducible apply r_sub); (· omega); (· omega)) | with_reducible apply jn_of | ((with_reducible refine r_pure (c_num_Bits _) ?_ hs.has ?_); (· kernel_rfl); intro w X hs1; replace hs := hs.trans hs1) | ((with_reducible refine fin_pure hs ?_); (simp only [cls] at *; grind)) | with_reducible apply r_land | ((with_reducible apply r_ishr); (· omega))
def one64 : Nat := 4607182418800017408
def isPoint (x : Nat) : Bool := decide (cls x ≥ 5) && (flt x one64 || feq x one64)
theorem c_place_point (x : Nat) : Pure Tryz.prog 314 #[.float .f64 x] (B (isPoint x)) := by
  intro w0
  apply ok_place_point; unfold vc_place_point
  have hs := Since.init w0
  repeat' first | with_reducible (first | apply un_selT | apply un_selFT | apply grdV_onT | apply grdW_offT | apply rdW_pickT | apply rdW_pickF) | (with_reducible apply r_geq <;> intro _) | (with_reducible apply r_fleq <;> intros) | ((with_reducible refine r_pure (c_num_Class _) ?_ hs.has ?_); (· kernel_rfl); intro w X hs1; replace hs := hs.trans hs1) | ((with_reducible refine fin_pure hs ?_); (simp_all [isPoint, one64] <;> grind))
def toPoint (x : Nat) : Nat × Int := if cls x = 4 then (0, 0) else if isPoint x then (x, 0) else (0, 1)
theorem c_place_Point (x : Nat) : Pure Tryz.prog 300 #[.float .f64 x] (.tuple #[.float .f64 (toPoint x).1, I (toPoint x).2]) := by
  intro w0
  apply ok_place_Point; unfold vc_place_Point
  have hs := Since.init w0
  repeat' first | with_reducible (first | apply condW_T | apply condW_F | apply r_notT | apply r_notF) | (with_reducible apply r_eql <;> intro _) | ((with_reducible refine r_pureB (c_place_point _) ?_ hs.has ?_ ?_); (· kernel_rfl); all_goals (intro _ w X hs1; replace hs := hs.trans hs1)) | ((with_reducible refine r_pure (c_num_Class _) ?_ hs.has ?_); (· kernel_rfl); intro w X hs1; replace hs := hs.trans hs1) | ((with_reducible refine fin_pure hs ?_); (simp_all [toPoint] <;> grind))
def Rng.may (r : Rng) : Bool := decide (r.id ≥ 1) && decide (r.id ≤ 12) && decide (r.epoch ≥ 0) && isPoint r.lo && isPoint r.hi && flt r.lo r.hi
theorem c_place_May (r : Rng) : Pure Tryz.prog 245 #[r.v] (B r.may) := by
  intro w0
  apply ok_place_May; unfold vc_place_May
  have hs := Since.init w0
  repeat' first | with_reducible (first | apply un_selT | apply un_selFT | apply grdV_onT | apply grdW_offT | apply rdW_pickT | apply rdW_pickF | apply gE_T | apply gE_FT) | (with_reducible apply r_leq <;> intro _) | (with_reducible apply r_geq <;> intro _) | (with_reducible apply r_flss <;> intro _) | with_reducible apply jn_of | ((with_reducible refine r_pureB (c_place_point _) ?_ hs.has ?_ ?_); (· kernel_rfl); all_goals (intro _ w X hs1; replace hs := hs.trans hs1)) | ((with_reducible refine fin_pure hs ?_); (simp_all [Rng.may] <;> omega))
def Val.may (v : Val) : Bool :=
  if v.kind = 0 then decide (v.num = 0) && decide (v.text = ⟨#[]⟩)
  else if v.kind = 1 then decide (v.text = ⟨#[]⟩) && decide (v.num = canon v.num)
  else if v.kind = 2 then decide (v.num = 0) && decide ((v.text.size : Int) ≤ 64)
  else false
theorem c_datum_May (v : Val) : Pure Tryz.prog 158 #[v.v] (B v.may) := by
  intro w0
  apply ok_datum_May; unfold vc_datum_May
  have hs := Since.init w0
  repeat' first | with_reducible (first | apply condW_T | apply condW_F | apply un_selT | apply un_selFT | apply grdV_onT | apply grdW_offT | apply rdW_pickT | apply rdW_pickF | apply gE_T | apply gE_FT) | (with_reducible apply r_eql <;> intro _) | (with_reducible apply r_leq <;> intro _) | (with_reducible apply r_seql <;> intro _) | ((with_reducible apply r_lnT); (· kernel_rfl)) | with_reducible apply jn_of | ((with_reducible refine r_pure (c_num_Bits _) ?_ hs.has ?_); (· kernel_rfl); intro w X hs1; replace hs := hs.trans hs1) | ((with_reducible refine fin_pure hs ?_); (simp_all [Val.may] <;> omega)) | ((with_reducible refine eC_val (run_bits _) hs.has ?_); intro w X hs1; replace hs := hs.trans hs1)
def hstep (h : Int) (b : UInt8) : Int := imul (ixor h (IntKind.u64.wrap b.toNat)) 1099511628211
def hmix (h : Int) : Nat → Int
  | 0 => h
  | 1 => imul (ixor h (ishr h 33)) 18397679294719823053
  | _ => let g := imul (ixor h (ishr h 33)) 18397679294719823053; imul (ixor g (ishr g 33)) 14181476777654086739
def hashOf (s : BA) : Int := let h := hmix (s.data.toList.foldl hstep 14695981039346656037) 2; ixor h (ishr h 33)
theorem c_place_Hash (s : BA) (hbig : s.size ≤ 2 ^ 62) : Pure Tryz.prog 321 #[.string s] (.int .u64 (hashOf s)) := by
  intro w0
  have hsz := size_list s
  apply ok_place_Hash; unfold vc_place_Hash
  have hs := Since.init w0
  repeat' first | ((with_reducible apply r_lnT); (· kernel_rfl))
  refine lp2_of (fun n a b w X => ∃ (i : Nat) (h : Int), a = I i ∧ b = .int .u64 h ∧ n = s.data.toList.length - i ∧ i ≤ s.data.toList.length ∧ Since (old w0) w0 X w ∧
    s.data.toList.foldl hstep 14695981039346656037 = (s.data.toList.drop i).foldl hstep h) s.data.toList.length ?_ ?_
  · exact ⟨0, 14695981039346656037, rfl, rfl, rfl, Nat.zero_le _, hs, by rw [List.drop_zero]⟩
  rintro n a b w X ⟨i, h, rfl, rfl, rfl, hi, hs, hw⟩
  rcases at_or s.data.toList i with ⟨hlt, x, hx, hd⟩ | ⟨hge, hd⟩
  · repeat' first | ((with_reducible refine r_lssT ?_ ?_); (· omega)) | with_reducible apply condW_T | ((with_reducible apply r_add); (· omega); (· omega)) | ((with_reducible apply r_cvI); (· kernel_rfl); (· kernel_rfl)) | ((with_reducible apply r_ixT); (try (case hz => rfl)); (case hb => assumption); (try (case hz => omega)); (case ht => kernel_rfl)) | with_reducible (first | apply r_ixor | apply r_imul) | ((with_reducible refine nx2_of ((s.data.toList).length - (i + 1)) ?_ ?_); (· omega); exact ⟨i + 1, _, by simp, rfl, rfl, by omega, hs, by rw [hw, hd, List.foldl_cons]; rfl⟩)
  · repeat' first | ((with_reducible refine r_lssF ?_ ?_); (· omega)) | with_reducible apply condW_F | ((with_reducible apply r_bld); (· kernel_rfl))
    rw [hd] at hw
    refine lp2_of (fun n a b w X => ∃ (i : Nat), a = I i ∧ b = .int .u64 (hmix h i) ∧ n = 2 - i ∧ i ≤ 2 ∧ Since (old w0) w0 X w) 2 ⟨0, rfl, rfl, rfl, Nat.zero_le _, hs⟩ ?_
    rintro n a b w X ⟨i, rfl, rfl, rfl, hi, hs⟩
    obtain rfl | rfl | rfl : i = 0 ∨ i = 1 ∨ i = 2 := by omega
    · repeat' first | ((with_reducible refine r_lssT ?_ ?_); (· omega)) | with_reducible apply condW_T | ((with_reducible apply r_add); (· omega); (· omega)) | ((with_reducible apply r_ixA); (· kernel_rfl); (· kernel_rfl); (try (case hz => rfl)); (case hn => omega); (case hl => rfl)) | (with_reducible apply r_ixor) | (with_reducible apply r_imul) | ((with_reducible apply r_ishr); (· omega)) | ((with_reducible refine nx2_of 1 ?_ ?_); (· omega); exact ⟨1, rfl, rfl, rfl, by omega, hs⟩)
    · repeat' first | ((with_reducible refine r_lssT ?_ ?_); (· omega)) | with_reducible apply condW_T | ((with_reducible apply r_add); (· omega); (· omega)) | ((with_reducible apply r_ixA); (· kernel_rfl); (· kernel_rfl); (try (case hz => rfl)); (case hn => omega); (case hl => rfl)) | (with_reducible apply r_ixor) | (with_reducible apply r_imul) | ((with_reducible apply r_ishr); (· omega)) | ((with_reducible refine nx2_of 0 ?_ ?_); (· omega); exact ⟨2, rfl, rfl, rfl, by omega, hs⟩)
    · repeat' first | ((with_reducible refine r_lssF ?_ ?_); (· omega)) | with_reducible apply condW_F | ((with_reducible refine fin_pure hs ?_); (simp only [hashOf, hw]; rfl)) | (with_reducible apply r_ixor) | ((with_reducible apply r_ishr); (· omega))
theorem place_some (n : Int) : ∃ r, floatBits .quo .f64 (floatOfInt .f64 n) 4845873199050653696 = some r := by
  have hn : (Ieee.double.read (floatOfInt .f64 n)).isNaN = false := read_nearest _ _ _ _
  have hd : Ieee.double.read 4845873199050653696 = .number false 4503599627370496 1 := by kernel_rfl
  show ∃ r, ((Ieee.double.read (floatOfInt .f64 n)).quotient _ (Ieee.double.read 4845873199050653696)).map _ = some r
  rw [hd]
  cases hr : Ieee.double.read (floatOfInt .f64 n) with
  | number s m p => simp [Ieee.Datum.quotient]
  | infinity s => simp [Ieee.Datum.quotient]
  | nan s f => rw [hr] at hn; simp [Ieee.Datum.isNaN] at hn
def placeOf (s : BA) : Nat := (floatBits .quo .f64 (floatOfInt .f64 (ishr (hashOf s) 11)) 4845873199050653696).getD 0
theorem placeOf_eq (s : BA) : floatBits .quo .f64 (floatOfInt .f64 (ishr (hashOf s) 11)) 4845873199050653696 = some (placeOf s) := by
  obtain ⟨r, hr⟩ := place_some (ishr (hashOf s) 11)
  rw [placeOf, hr]; rfl
theorem c_place_Of (s : BA) (hbig : s.size ≤ 2 ^ 62) : Pure Tryz.prog 249 #[.string s] (.float .f64 (placeOf s)) := by
  intro w0
  apply ok_place_Of; unfold vc_place_Of
  have hs := Since.init w0
  repeat' first | ((with_reducible apply r_cvF); (· kernel_rfl); (· kernel_rfl)) | ((with_reducible refine r_pure (c_place_Hash _ (by first | assumption | omega)) ?_ hs.has ?_); (· kernel_rfl); intro w X hs1; replace hs := hs.trans hs1) | ((with_reducible refine fin_pure hs ?_); rfl) | ((with_reducible apply r_ishr); (· omega)) | ((with_reducible apply r_fop); (· exact placeOf_eq s))
end Go.Proofs.YtpdkoaklobnegaaGreat
namespace Go.Proofs.YtpdkoaklobnegaaGreat
open Go.Eng
set_option maxRecDepth 100000
set_option maxHeartbeats 1000000
set_option linter.unusedVariables false
set_option linter.unusedSimpArgs false
attribute [local irreducible] un jn chk fld ld1 ldA st1 ixS lnS lnT bld cvI cvF ixA bsS apS rdV rdW grdW eW eV eU eC eF gE condW fin pickN nilN binS vS lp0 lp1 lp2 lp3 lp4 lp5 lp6 lp7 nx0 nx1 nx2 nx3 nx4 nx5 nx6 nx7
def rising (l : List BA) : Bool := chain goodKey tlt none l
def rises (l : List BA) : Bool := rising l && decide ((l.length : Int) ≤ 16)
theorem d_mvcc_rise {w : World} {X : XS} {a : Value} {xs : List BA} (ha : Sl w X 1 a (xs.map S1)) :
    Ct Tryz.prog 322 #[a] w X nX fun v _ _ => v = B (rises xs) := by
  intro w0 hk
  replace ha := ha.mv hk.mvo
  have hla := ha.len'
  apply ok_mvcc_rise; unfold vc_mvcc_rise
  have hs := Since.init w0
  repeat' first | ((with_reducible apply m_lnS); (· exact qO); (· kernel_rfl))
  refine lp1_of (fun n a w X => ∃ i : Nat, a = I (i : Nat) ∧ n = (xs).length - i ∧ i ≤ (xs).length ∧ Since (old w0) w0 X w ∧ chain goodKey tlt none xs = chain goodKey tlt (prevOf xs i) (xs.drop i)) (xs).length ⟨0, rfl, rfl, Nat.zero_le _, hs, by simp [prevOf]⟩ ?_
  rintro n a w X ⟨i, rfl, rfl, hi, hs, hw⟩
  rcases at_or (xs) i with ⟨hlt, x, hx, hd⟩ | ⟨hge, hd⟩
  · rcases at_prev hlt with ⟨h0, hp⟩ | ⟨h0, y, hy, hp⟩ <;> rw [hp, hd, chain] at hw <;> clear hd
    · repeat' first | ((with_reducible refine r_lssT ?_ ?_); (· omega)) | ((with_reducible refine r_gtrF ?_ ?_); (· omega)) | with_reducible (first | apply condW_T | apply condW_F | apply un_selF | apply un_selTF | apply un_selFT | apply un_selU | apply grdV_onF | apply grdW_onF | apply grdW_offT | apply grdW_offF | apply grdW_U | apply rdW_pickT | apply rdW_pickF | apply r_notT | apply r_notF) | ((with_reducible apply m_ld1); (· exact qF); (· exact qM); (· kernel_rfl); (· rfl)) | ((with_reducible apply m_ixS); (· exact qO); (try (case hz => rfl)); (case hr => exact qR); (try (case hz => omega)); (case ht => kernel_rfl); (case hs => kernel_rfl); intro _ _ _) | ((with_reducible apply r_add); (· omega); (· omega)) | ((with_reducible refine r_pureB (c_datum_Key _) ?_ hs.has ?_ ?_); (· kernel_rfl); all_goals (intro _ w X hs1; replace hs := hs.trans hs1)) | ((first | (with_reducible refine fin_ret0 hs ?_) | (with_reducible refine fin_ret0 (hs0.trans hs) ?_)); intro wa hk; simp_all [rises, rising, chain]) | ((with_reducible refine nx1_of ((xs).length - (i + 1)) ?_ ?_); (· omega); exact ⟨i + 1, by simp, rfl, by omega, hs, by rw [hw, prevOf_succ hx]; simp [*]⟩)
    · repeat' first | ((with_reducible refine r_lssT ?_ ?_); (· omega)) | ((with_reducible refine r_gtrT ?_ ?_); (· omega)) | with_reducible (first | apply condW_T | apply condW_F | apply un_selT | apply un_selF | apply un_selTF | apply un_selU | apply grdV_onT | apply grdV_onF | apply grdW_onF | apply grdW_offF | apply grdW_U | apply rdW_pickT | apply rdW_pickF | apply r_notT | apply r_notF) | (with_reducible apply r_sgeq <;> intro _) | ((with_reducible apply m_ld1); (· exact qF); (· exact qM); (· kernel_rfl); (· rfl)) | ((with_reducible apply m_ixS); (· exact qO); (try (case hz => rfl)); (case hr => exact qR); (try (case hz => omega)); (case ht => kernel_rfl); (case hs => kernel_rfl); intro _ _ _) | ((with_reducible apply r_add); (· omega); (· omega)) | ((with_reducible apply r_sub); (· omega); (· omega)) | ((with_reducible refine r_pureB (c_datum_Key _) ?_ hs.has ?_ ?_); (· kernel_rfl); all_goals (intro _ w X hs1; replace hs := hs.trans hs1)) | ((first | (with_reducible refine fin_ret0 hs ?_) | (with_reducible refine fin_ret0 (hs0.trans hs) ?_)); intro wa hk; simp_all [rises, rising, chain]) | ((with_reducible refine nx1_of ((xs).length - (i + 1)) ?_ ?_); (· omega); exact ⟨i + 1, by simp, rfl, by omega, hs, by rw [hw, prevOf_succ hx]; simp [*]⟩)
  · repeat' first | ((with_reducible refine r_lssF ?_ ?_); (· omega)) | with_reducible apply condW_F | (with_reducible apply r_leq <;> intro _) | ((with_reducible apply m_lnS); (· exact qO); (· kernel_rfl)) | ((first | (with_reducible refine fin_ret0 hs ?_) | (with_reducible refine fin_ret0 (hs0.trans hs) ?_)); intro wa hk; simp_all [rises, rising, chain] <;> omega)
def rowsOk (l : List KV) : Bool := rises (l.map (·.key)) && l.all (·.val.may)
theorem d_mvcc_writeKeys {w : World} {X : XS} {a : Value} {xs : List KV} (ha : Sl w X 4 a (xs.map KV.l)) (hb : xs.length ≤ 2 ^ 40) :
    Ct Tryz.prog 323 #[a] w X nX fun v wa w' => Own w' (made wa w') wa.heap.size 9 1 v ((xs.map (·.key)).map S1) := by
  intro w0 hk
  replace ha := ha.mv hk.mvo
  have hla := ha.len'
  apply ok_mvcc_writeKeys; unfold vc_mvcc_writeKeys
  have hs := Since.init w0
  repeat' first | ((with_reducible apply m_lnS); (· exact qO); (· kernel_rfl))
  refine lp2_of (fun n a b w X => ∃ i : Nat, a = I i ∧ n = xs.length - i ∧ i ≤ xs.length ∧ Since (old w0) w0 X w ∧ Own w X w0.heap.size 9 1 b (((xs.take i).map (·.key)).map S1)) xs.length ⟨0, rfl, rfl, Nat.zero_le _, hs, Own.nil _ _ _ _ _⟩ ?_
  rintro n a b w X ⟨i, rfl, rfl, hi, hs, ho⟩
  rcases at_or (xs) i with ⟨hlt, x, hx, hd⟩ | ⟨hge, hd⟩
  · repeat' first | ((with_reducible refine r_lssT ?_ ?_); (· omega)) | with_reducible apply condW_T | ((with_reducible apply un_cell); (· rfl)) | with_reducible apply un_box | ((with_reducible apply m_ldA); (· exact qF); (· exact qM); (· kernel_rfl); (· rfl)) | ((with_reducible apply m_ixS); (· exact qO); (try (case hz => rfl)); (case hr => exact qR); (try (case hz => omega)); (case ht => kernel_rfl); (case hs => kernel_rfl); intro _ _ _) | ((with_reducible apply m_chkc); (case h => exact qE)) | ((with_reducible apply chk_T); (· exact qC)) | ((with_reducible apply r_add); (· omega); (· omega)) | ((with_reducible apply m_app1s); (case own => first | assumption | exact Own.since (by assumption) (by assumption)); (case hs => assumption); (case h0 => first | exact fun _ h => h | exact hs0.has); (case he => kernel_rfl); (case hk => rfl); (case ho => first | rfl | assumption); (case hb => (simp only [List.length_map, List.length_take, List.length_append, List.length_cons, List.length_nil]; omega)); (case hl => (simp only [List.length_map, List.length_take, List.length_append, List.length_cons, List.length_nil]; omega)); intro acc w X hs1 ho hc hat; replace hs := hs1) | ((with_reducible refine nx2_of ((xs).length - (i + 1)) ?_ ?_); (· omega); exact ⟨i + 1, by simp, rfl, by omega, hs, by rw [List.take_add_one, hx]; simpa using ho⟩)
  · repeat' first | ((with_reducible refine r_lssF ?_ ?_); (· omega)) | with_reducible apply condW_F | ((first | (with_reducible refine fin_ret0 hs ?_) | (with_reducible refine fin_ret0 (hs0.trans hs) ?_)); intro wa hk; (rw [List.take_of_length_le hge] at ho; exact (ho.kp hk).tight))
def Pend.err (p : Pend) : Int :=
  if !p.txn.may then 4 else if !p.stamp.may || decide (p.stamp = .zero) then 17
  else if !rises p.reads || !rises (p.writes.map (·.key)) then 4
  else if p.writes.all (·.val.may) then 0 else 4
theorem d_mvcc_PendingMay {w : World} {X : XS} {p : Pend} {vr vw : Value} (h1 : Sl w X 1 vr (p.reads.map S1)) (h2 : Sl w X 4 vw (p.writes.map KV.l)) (hb : p.writes.length ≤ 2 ^ 40) :
    Ct Tryz.prog 250 #[p.v vr vw] w X nX fun v _ _ => v = I p.err := by
  intro w0 hk
  replace h1 := h1.mv hk.mvo
  replace h2 := h2.mv hk.mvo
  have hla := h2.len'
  apply ok_mvcc_PendingMay; unfold vc_mvcc_PendingMay
  have hs := Since.init w0
  repeat' first | with_reducible (first | apply condW_T | apply condW_F | apply un_selF | apply un_selTF | apply grdV_onF | apply grdW_offF | apply rdW_pickT | apply rdW_pickF | apply gE_F | apply gE_TF | apply r_notT | apply r_notF) | ((with_reducible apply m_lnS); (· exact qO); (· kernel_rfl)) | ((with_reducible apply r_bld); (· kernel_rfl)) | ((with_reducible refine r_eqS0 _ ?_ ?_ ?_); (· kernel_rfl); all_goals intros) | with_reducible apply jn_of | ((with_reducible refine r_pureB (c_hlc_May _) ?_ hs.has ?_ ?_); (· kernel_rfl); all_goals (intro _ w X hs1; replace hs := hs.trans hs1)) | ((with_reducible refine r_pureB (c_mvcc_TxnMay _) ?_ hs.has ?_ ?_); (· kernel_rfl); all_goals (intro _ w X hs1; replace hs := hs.trans hs1)) | ((first | (with_reducible refine fin_ret0 hs ?_) | (with_reducible refine fin_ret0 (hs0.trans hs) ?_)); intro wa hk; simp_all [Pend.err]) | (refine r_ct0B (d_mvcc_rise  qA) (by kernel_rfl) hs.has ?_ ?_ <;> (intro _ w X hs1; replace hs := hs.trans hs1)) | (refine r_ct0 (d_mvcc_writeKeys  qA qA) (by kernel_rfl) hs.has ?_; rintro v1 wa w X ho1 hle hin hs1; have hlo := Nat.le_trans hs.kp.size hle; replace hs := hs.trans hs1; replace ho1 := ho1.up hin hlo)
  refine lp1_of (fun n a w X => ∃ i : Nat, a = I (i : Nat) ∧ n = (p.writes).length - i ∧ i ≤ (p.writes).length ∧ Since (old w0) w0 X w ∧ p.writes.all (·.val.may) = (p.writes.drop i).all (·.val.may)) (p.writes).length ⟨0, rfl, rfl, Nat.zero_le _, hs, by simp⟩ ?_
  rintro n a w X ⟨i, rfl, rfl, hi, hs, hw⟩
  rcases at_or (p.writes) i with ⟨hlt, x, hx, hd⟩ | ⟨hge, hd⟩
  · repeat' first | ((with_reducible refine r_lssT ?_ ?_); (· omega)) | with_reducible (first | apply condW_T | apply condW_F) | ((with_reducible apply m_sub); (· exact qN)) | with_reducible (first | apply un_box | apply r_notT | apply r_notF) | ((with_reducible apply m_ldA); (· exact qF); (· exact qM); (· kernel_rfl); (· rfl)) | ((with_reducible apply m_ixS); (· exact qO); (try (case hz => rfl)); (case hr => exact qR); (try (case hz => omega)); (case ht => kernel_rfl); (case hs => kernel_rfl); intro _ _ _) | ((with_reducible apply m_chkc); (case h => exact qE)) | ((with_reducible apply chk_T); (· exact qC)) | ((with_reducible apply r_add); (· omega); (· omega)) | ((with_reducible refine r_pureB (c_datum_May _) ?_ hs.has ?_ ?_); (· kernel_rfl); all_goals (intro _ w X hs1; replace hs := hs.trans hs1)) | ((first | (with_reducible refine fin_ret0 hs ?_) | (with_reducible refine fin_ret0 (hs0.trans hs) ?_)); intro wa hk; simp_all [Pend.err]) | ((with_reducible refine nx1_of ((p.writes).length - (i + 1)) ?_ ?_); (· omega); exact ⟨i + 1, by simp, rfl, by omega, hs, by rw [hw, hd]; simp [*]⟩)
  · repeat' first | ((with_reducible refine r_lssF ?_ ?_); (· omega)) | with_reducible apply condW_F | ((first | (with_reducible refine fin_ret0 hs ?_) | (with_reducible refine fin_ret0 (hs0.trans hs) ?_)); intro wa hk; simp_all [Pend.err])
def partsOk (l : List Int) : Bool := chain (fun n => decide (n ≥ 1) && decide (n ≤ 12)) (fun a b => decide (a < b)) none l && decide (l ≠ [])
theorem d_recs_Parts {w : World} {X : XS} {a : Value} {xs : List Int} (ha : Sl w X 1 a (xs.map I1)) :
    Ct Tryz.prog 243 #[a] w X nX fun v _ _ => v = B (partsOk xs) := by
  intro w0 hk
  replace ha := ha.mv hk.mvo
  have hla := ha.len'
  apply ok_recs_Parts; unfold vc_recs_Parts
  have hs := Since.init w0
  repeat' first | ((with_reducible apply m_lnS); (· exact qO); (· kernel_rfl))
  refine lp1_of (fun n a w X => ∃ i : Nat, a = I (i : Nat) ∧ n = (xs).length - i ∧ i ≤ (xs).length ∧ Since (old w0) w0 X w ∧ chain (fun n => decide (n ≥ 1) && decide (n ≤ 12)) (fun a b => decide (a < b)) none xs = chain (fun n => decide (n ≥ 1) && decide (n ≤ 12)) (fun a b => decide (a < b)) (prevOf xs i) (xs.drop i)) (xs).length ⟨0, rfl, rfl, Nat.zero_le _, hs, by simp [prevOf]⟩ ?_
  rintro n a w X ⟨i, rfl, rfl, hi, hs, hw⟩
  rcases at_or (xs) i with ⟨hlt, x, hx, hd⟩ | ⟨hge, hd⟩
  · rcases at_prev hlt with ⟨h0, hp⟩ | ⟨h0, y, hy, hp⟩ <;> rw [hp, hd, chain] at hw <;> clear hd
    · repeat' first | ((with_reducible refine r_lssT ?_ ?_); (· omega)) | ((with_reducible refine r_gtrF ?_ ?_); (· omega)) | with_reducible (first | apply condW_T | apply condW_F | apply un_selF | apply un_selTF | apply un_selFT | apply un_selU | apply grdV_onF | apply grdW_onF | apply grdW_offT | apply grdW_offF | apply grdW_U | apply rdW_pickT | apply rdW_pickF) | (with_reducible apply r_lss <;> intro _) | (with_reducible apply r_gtr <;> intro _) | ((with_reducible apply m_ld1); (· exact qF); (· exact qM); (· kernel_rfl); (· rfl)) | ((with_reducible apply m_ixS); (· exact qO); (try (case hz => rfl)); (case hr => exact qR); (try (case hz => omega)); (case ht => kernel_rfl); (case hs => kernel_rfl); intro _ _ _) | ((with_reducible apply r_add); (· omega); (· omega)) | ((first | (with_reducible refine fin_ret0 hs ?_) | (with_reducible refine fin_ret0 (hs0.trans hs) ?_)); intro wa hk; (simp_all [partsOk, chain] <;> omega)) | ((with_reducible refine nx1_of ((xs).length - (i + 1)) ?_ ?_); (· omega); exact ⟨i + 1, by simp, rfl, by omega, hs, by rw [hw, prevOf_succ hx]; simp_all <;> omega⟩)
    · repeat' first | ((with_reducible refine r_lssT ?_ ?_); (· omega)) | ((with_reducible refine r_gtrT ?_ ?_); (· omega)) | with_reducible (first | apply condW_T | apply condW_F | apply un_selT | apply un_selF | apply un_selTF | apply un_selU | apply grdV_onT | apply grdV_onF | apply grdW_onF | apply grdW_offF | apply grdW_U | apply rdW_pickT | apply rdW_pickF) | (with_reducible apply r_lss <;> intro _) | (with_reducible apply r_gtr <;> intro _) | (with_reducible apply r_geq <;> intro _) | ((with_reducible apply m_ld1); (· exact qF); (· exact qM); (· kernel_rfl); (· rfl)) | ((with_reducible apply m_ixS); (· exact qO); (try (case hz => rfl)); (case hr => exact qR); (try (case hz => omega)); (case ht => kernel_rfl); (case hs => kernel_rfl); intro _ _ _) | ((with_reducible apply r_add); (· omega); (· omega)) | ((with_reducible apply r_sub); (· omega); (· omega)) | ((first | (with_reducible refine fin_ret0 hs ?_) | (with_reducible refine fin_ret0 (hs0.trans hs) ?_)); intro wa hk; (simp_all [partsOk, chain] <;> omega)) | ((with_reducible refine nx1_of ((xs).length - (i + 1)) ?_ ?_); (· omega); exact ⟨i + 1, by simp, rfl, by omega, hs, by rw [hw, prevOf_succ hx]; simp_all <;> omega⟩)
  · repeat' first | ((with_reducible refine r_lssF ?_ ?_); (· omega)) | with_reducible apply condW_F | (with_reducible apply r_gtr <;> intro _) | ((with_reducible apply m_lnS); (· exact qO); (· kernel_rfl)) | ((first | (with_reducible refine fin_ret0 hs ?_) | (with_reducible refine fin_ret0 (hs0.trans hs) ?_)); intro wa hk; (simp_all [partsOk, chain] <;> grind))
def pairsOk (l : List KV) : Bool := chain (fun x => goodKey x.key && x.val.may && decide (x.val.kind ≠ 0)) (fun a b => tlt a.key b.key) none l
theorem d_recs_pairs {w : World} {X : XS} {a : Value} {xs : List KV} (ha : Sl w X 4 a (xs.map KV.l)) :
    Ct Tryz.prog 303 #[a] w X nX fun v _ _ => v = B (pairsOk xs) := by
  intro w0 hk
  replace ha := ha.mv hk.mvo
  have hla := ha.len'
  apply ok_recs_pairs; unfold vc_recs_pairs
  have hs := Since.init w0
  repeat' first | ((with_reducible apply m_lnS); (· exact qO); (· kernel_rfl))
  refine lp1_of (fun n a w X => ∃ i : Nat, a = I (i : Nat) ∧ n = (xs).length - i ∧ i ≤ (xs).length ∧ Since (old w0) w0 X w ∧ pairsOk xs = chain (fun x => goodKey x.key && x.val.may && decide (x.val.kind ≠ 0)) (fun a b => tlt a.key b.key) (prevOf xs i) (xs.drop i)) (xs).length ⟨0, rfl, rfl, Nat.zero_le _, hs, by simp [prevOf, pairsOk]⟩ ?_
  rintro n a w X ⟨i, rfl, rfl, hi, hs, hw⟩
  rcases at_or (xs) i with ⟨hlt, x, hx, hd⟩ | ⟨hge, hd⟩
  · rcases at_prev hlt with ⟨h0, hp⟩ | ⟨h0, y, hy, hp⟩ <;> rw [hp, hd, chain] at hw <;> clear hd
    · repeat' first | ((with_reducible refine r_lssT ?_ ?_); (· omega)) | ((with_reducible refine r_gtrF ?_ ?_); (· omega)) | with_reducible (first | apply condW_T | apply condW_F) | ((with_reducible apply un_cell); (· rfl)) | ((with_reducible apply m_sub); (· exact qN)) | with_reducible (first | apply un_box | apply un_selF | apply un_selTF | apply un_selFT | apply un_selU | apply grdV_onF | apply grdW_onF | apply grdW_offT | apply grdW_offF | apply grdW_U | apply rdW_pickT | apply rdW_pickF | apply gE_F | apply gE_TF | apply r_notT | apply r_notF) | (with_reducible apply r_eql <;> intro _) | ((with_reducible apply m_ldA); (· exact qF); (· exact qM); (· kernel_rfl); (· rfl)) | ((with_reducible apply m_ixS); (· exact qO); (try (case hz => rfl)); (case hr => exact qR); (try (case hz => omega)); (case ht => kernel_rfl); (case hs => kernel_rfl); intro _ _ _) | ((with_reducible apply m_chkc); (case h => exact qE)) | ((with_reducible apply chk_T); (· exact qC)) | ((with_reducible apply r_add); (· omega); (· omega)) | with_reducible apply jn_of | ((with_reducible refine r_pureB (c_datum_May _) ?_ hs.has ?_ ?_); (· kernel_rfl); all_goals (intro _ w X hs1; replace hs := hs.trans hs1)) | ((with_reducible refine r_pureB (c_datum_Key _) ?_ hs.has ?_ ?_); (· kernel_rfl); all_goals (intro _ w X hs1; replace hs := hs.trans hs1)) | ((first | (with_reducible refine fin_ret0 hs ?_) | (with_reducible refine fin_ret0 (hs0.trans hs) ?_)); intro wa hk; (simp_all [chain] <;> omega)) | ((with_reducible refine nx1_of ((xs).length - (i + 1)) ?_ ?_); (· omega); exact ⟨i + 1, by simp, rfl, by omega, hs, by rw [hw, prevOf_succ hx]; simp_all <;> omega⟩)
    · repeat' first | ((with_reducible refine r_lssT ?_ ?_); (· omega)) | ((with_reducible refine r_gtrT ?_ ?_); (· omega)) | with_reducible (first | apply condW_T | apply condW_F) | ((with_reducible apply un_cell); (· rfl)) | ((with_reducible apply m_sub); (· exact qN)) | with_reducible (first | apply un_box | apply un_selT | apply un_selF | apply un_selTF | apply un_selU | apply grdV_onT | apply grdV_onF | apply grdW_onF | apply grdW_offF | apply grdW_U | apply rdW_pickT | apply rdW_pickF | apply gE_F | apply gE_TF | apply r_notT | apply r_notF) | (with_reducible apply r_eql <;> intro _) | (with_reducible apply r_sgeq <;> intro _) | ((with_reducible apply m_fld1); (· exact qF); (· kernel_rfl); (· rfl); intro _ _ _) | ((with_reducible apply m_ld1); (· exact qF); (· exact qM); (· kernel_rfl); (· rfl)) | ((with_reducible apply m_ldA); (· exact qF); (· exact qM); (· kernel_rfl); (· rfl)) | ((with_reducible apply m_ixS); (· exact qO); (try (case hz => rfl)); (case hr => exact qR); (try (case hz => omega)); (case ht => kernel_rfl); (case hs => kernel_rfl); intro _ _ _) | ((with_reducible apply m_chkc); (case h => exact qE)) | ((with_reducible apply chk_T); (· exact qC)) | ((with_reducible apply r_add); (· omega); (· omega)) | ((with_reducible apply r_sub); (· omega); (· omega)) | with_reducible apply jn_of | ((with_reducible refine r_pureB (c_datum_May _) ?_ hs.has ?_ ?_); (· kernel_rfl); all_goals (intro _ w X hs1; replace hs := hs.trans hs1)) | ((with_reducible refine r_pureB (c_datum_Key _) ?_ hs.has ?_ ?_); (· kernel_rfl); all_goals (intro _ w X hs1; replace hs := hs.trans hs1)) | ((first | (with_reducible refine fin_ret0 hs ?_) | (with_reducible refine fin_ret0 (hs0.trans hs) ?_)); intro wa hk; (simp_all [chain] <;> omega)) | ((with_reducible refine nx1_of ((xs).length - (i + 1)) ?_ ?_); (· omega); exact ⟨i + 1, by simp, rfl, by omega, hs, by rw [hw, prevOf_succ hx]; simp_all <;> omega⟩)
  · repeat' first | ((with_reducible refine r_lssF ?_ ?_); (· omega)) | with_reducible apply condW_F | ((first | (with_reducible refine fin_ret0 hs ?_) | (with_reducible refine fin_ret0 (hs0.trans hs) ?_)); intro wa hk; (simp_all [chain] <;> grind))
end Go.Proofs.YtpdkoaklobnegaaGreat
namespace Go.Proofs.YtpdkoaklobnegaaGreat
open Go.Eng
set_option maxRecDepth 100000
set_option maxHeartbeats 1000000
set_option linter.unusedVariables false
set_option linter.unusedSimpArgs false
attribute [local irreducible] un jn chk fld ld1 ldA st1 ixS lnS lnT bld cvI cvF ixA bsS apS rdV rdW grdW eW eV eU eC eF gE condW fin pickN nilN binS vS lp0 lp1 lp2 lp3 lp4 lp5 lp6 lp7 nx0 nx1 nx2 nx3 nx4 nx5 nx6 nx7
abbrev Rng.zero : Rng := ⟨0, 0, 0, 0⟩
abbrev State.zero : State := ⟨.zero, .zero, .zero, [], []⟩
def State.isZero (s : State) : Bool := decide (s.range = .zero) && decide (s.floor = .zero) && decide (s.closed = .zero) && decide (s.hists = []) && decide (s.pend = [])
theorem d_recs_zeroState {w : World} {X : XS} {s : State} {vh vp : Value} (h1 : Hists w X vh s.hists) (h2 : Pends w X vp s.pend) :
    Ct Tryz.prog 298 #[s.v vh vp] w X nX fun v _ _ => v = B s.isZero := by
  intro w0 hk
  replace h1 := h1.mv hk.mvo
  replace h2 := h2.mv hk.mvo
  apply ok_recs_zeroState; unfold vc_recs_zeroState
  have hs := Since.init w0
  repeat' first | with_reducible (first | apply un_selT | apply un_selFT | apply grdV_onT | apply grdW_offT | apply rdW_pickT | apply rdW_pickF | apply gE_T | apply gE_FT) | (with_reducible apply r_eql <;> intro _) | ((with_reducible apply m_lnR); (· assumption); (· kernel_rfl)) | ((with_reducible apply r_bld); (· kernel_rfl)) | ((with_reducible refine r_eqS0 _ ?_ ?_ ?_); (· kernel_rfl); all_goals intros) | with_reducible apply jn_of | ((first | (with_reducible refine fin_ret0 hs ?_) | (with_reducible refine fin_ret0 (hs0.trans hs) ?_)); intro wa hk; (simp_all [State.isZero, Rng.ext_iff])) | ((with_reducible refine eC_val (run_bits _) hs.has ?_); intro w X hs1; replace hs := hs.trans hs1)
def Rec.isZero (r : Rec) : Bool := decide (r.txn = .zero) && decide (r.stamp = .zero) && decide (r.prev = .zero) && !r.commit && decide (r.n = 0) && decide (r.point = 0) &&
  decide (r.reads = []) && decide (r.writes = []) && decide (r.parts = []) && decide (r.pairs = []) && r.state.isZero
theorem d_recs_zero {w : World} {X : XS} {r : Rec} {vr vw vp vq vh vd : Value} (h : r.at w X vr vw vp vq vh vd) :
    Ct Tryz.prog 223 #[r.v vr vw vp vq vh vd] w X nX fun v _ _ => v = B r.isZero := by
  intro w0 hk
  obtain ⟨h1, h2, h3, h4, h5, h6⟩ := h.mv hk.mvo
  apply ok_recs_zero; unfold vc_recs_zero
  have hs := Since.init w0
  cases hc : r.commit <;>
  repeat' first | with_reducible (first | apply un_selT | apply un_selFT | apply grdV_onT | apply grdW_offT | apply rdW_pickT | apply rdW_pickF | apply gE_T | apply gE_FT | apply r_notT | apply r_notF) | (with_reducible apply r_eql <;> intro _) | ((with_reducible apply m_lnS); (· exact qO); (· kernel_rfl)) | ((with_reducible apply r_bld); (· kernel_rfl)) | ((with_reducible refine r_eqS0 _ ?_ ?_ ?_); (· kernel_rfl); all_goals intros) | ((with_reducible refine r_eqT0 _ ?_ ?_ ?_); (· kernel_rfl); all_goals intros) | with_reducible apply jn_of | ((first | (with_reducible refine fin_ret0 hs ?_) | (with_reducible refine fin_ret0 (hs0.trans hs) ?_)); intro wa hk; (simp_all [Rec.isZero])) | ((with_reducible refine eC_val (run_bits _) hs.has ?_); intro w X hs1; replace hs := hs.trans hs1) | (refine r_ct0B (d_recs_zeroState  (s := r.state) qA qA) (by kernel_rfl) hs.has ?_ ?_ <;> (intro _ w X hs1; replace hs := hs.trans hs1))
def Rec.strip (r : Rec) : Rec × Bool :=
  if r.kind = 1 then ({ r with state := .zero }, true)
  else if r.kind = 2 ∨ r.kind = 7 ∨ r.kind = 8 then ({ r with n := 0 }, true)
  else if r.kind = 3 then ({ r with txn := .zero, stamp := .zero, reads := [], writes := [], parts := [] }, true)
  else if r.kind = 4 then ({ r with txn := .zero, commit := false, stamp := .zero }, true)
  else if r.kind = 5 then ({ r with stamp := .zero }, true)
  else if r.kind = 6 then ({ r with point := 0, n := 0, stamp := .zero }, true)
  else if r.kind = 9 then ({ r with txn := .zero, stamp := .zero, parts := [] }, true)
  else if r.kind = 10 then ({ r with txn := .zero }, true)
  else if r.kind = 11 then ({ r with prev := .zero, stamp := .zero, txn := .zero, writes := [] }, true)
  else if r.kind = 12 then ({ r with stamp := .zero, pairs := [] }, true)
  else (r, false)
theorem d_recs_without {w : World} {X : XS} {r : Rec} {vr vw vp vq vh vd : Value} (h : r.at w X vr vw vp vq vh vd) :
    Ct Tryz.prog 222 #[r.v vr vw vp vq vh vd] w X nX fun v _ _ => ∃ vr' vw' vp' vq' vh' vd', v = .tuple #[r.strip.1.v vr' vw' vp' vq' vh' vd', B r.strip.2] ∧
      r.strip.1.at w X vr' vw' vp' vq' vh' vd' := by
  intro w0 hk
  obtain ⟨h1, h2, h3, h4, h5, h6⟩ := h
  have o1 := h1.one
  have o2 := h2.one
  have o3 := h3.one
  have o4 := h4.one
  have o5 := h5.one
  have o6 := h6.one
  apply ok_recs_without; unfold vc_recs_without
  have hs := Since.init w0
  have n1 : Sl w X 1 (.slice none 0 0) (([] : List BA).map S1) := Sl.nil _ _ _
  have n2 : Sl w X 4 (.slice none 0 0) (([] : List KV).map KV.l) := Sl.nil _ _ _
  have n3 : Sl w X 1 (.slice none 0 0) (([] : List Int).map I1) := Sl.nil _ _ _
  have n4 : Hists w X (.slice none 0 0) [] := Rws.nil _ _ _
  have n5 : Pends w X (.slice none 0 0) [] := Rws.nil _ _ _
  repeat' first | with_reducible (first | apply condW_T | apply condW_F) | ((with_reducible apply m_sub); (· exact qN)) | ((with_reducible apply m_set); (· exact qN)) | with_reducible apply un_box | (with_reducible apply r_eql <;> intro _) | ((with_reducible apply r_bld); (· kernel_rfl)) | ((with_reducible apply m_chkc); (case h => exact qE)) | ((with_reducible apply m_chkl); (case h => exact qE)) | ((with_reducible apply chk_T); (· exact qC)) | with_reducible apply jn_of
  all_goals
    refine fin_ret0 hs ?_
    intro wa hk9
    unfold Rec.strip
    repeat (first | rw [if_pos (by omega)] | rw [if_neg (by omega)])
    exact ⟨_, _, _, _, _, _, rfl, by assumption, by assumption, by assumption, by assumption, by assumption, by assumption⟩
end Go.Proofs.YtpdkoaklobnegaaGreat
namespace Go.Proofs.YtpdkoaklobnegaaGreat
open Go.Eng
set_option maxRecDepth 100000
set_option maxHeartbeats 1000000
set_option linter.unusedVariables false
set_option linter.unusedSimpArgs false
attribute [local irreducible] un jn chk fld ld1 ldA st1 ixS lnS lnT bld cvI cvF ixA bsS apS rdV rdW grdW eW eV eU eC eF gE condW fin pickN nilN binS vS lp0 lp1 lp2 lp3 lp4 lp5 lp6 lp7 nx0 nx1 nx2 nx3 nx4 nx5 nx6 nx7
theorem d_clone_texts {w : World} {X : XS} {a : Value} {xs : List BA} (ha : Sl w X 1 a (xs.map S1)) (hb : xs.length ≤ 2 ^ 40) :
    Ct Tryz.prog 353 #[a] w X nX fun v wa w' => Own w' (made wa w') wa.heap.size 9 1 v (xs.map S1) := by
    intro w0 hk
    replace ha := ha.mv hk.mvo
    apply ok_slices_Clone_sl_string_string; unfold vc_slices_Clone_sl_string_string
    have hs := Since.init w0
    repeat' first | with_reducible (first | apply condW_T | apply condW_F) | ((with_reducible apply m_snil); (· exact qO); (· kernel_rfl); all_goals intros) | ((with_reducible apply m_bs0); (case hX => exact hs.has); (case hu => kernel_rfl); (case hz => kernel_rfl); intro acc w X hs1 ho; replace hs := hs.trans hs1) | ((first | (with_reducible refine fin_ret0 hs ?_) | (with_reducible refine fin_ret0 (hs0.trans hs) ?_)); intro wa hk; (first | (rename_i h1 h2; (first | (rw [h2]) | skip); exact Own.nil _ _ _ _ _) | exact (ho.kp hk).tight)) | ((with_reducible apply m_appS); (case own => assumption); (case hs => assumption); (case h0 => exact fun _ h => h); (case he => kernel_rfl); (case src => exact Sl.mv ha (Since.mv hs)); (case h1 => simp [one]); (case hb => simp; omega); (case hl => simp; omega); intro acc w X hs1 ho hc hat; replace hs := hs1; rw [List.nil_append] at ho)
theorem d_clone_writes {w : World} {X : XS} {a : Value} {xs : List KV} (ha : Sl w X 4 a (xs.map KV.l)) (hb : xs.length ≤ 2 ^ 40) :
    Ct Tryz.prog 60 #[a] w X nX fun v wa w' => Own w' (made wa w') wa.heap.size 53 4 v (xs.map KV.l) := by
    intro w0 hk
    replace ha := ha.mv hk.mvo
    apply ok_slices_Clone_sl_api_Write_api_Write; unfold vc_slices_Clone_sl_api_Write_api_Write
    have hs := Since.init w0
    repeat' first | with_reducible (first | apply condW_T | apply condW_F) | ((with_reducible apply m_snil); (· exact qO); (· kernel_rfl); all_goals intros) | ((with_reducible apply m_bs0); (case hX => exact hs.has); (case hu => kernel_rfl); (case hz => kernel_rfl); intro acc w X hs1 ho; replace hs := hs.trans hs1) | ((first | (with_reducible refine fin_ret0 hs ?_) | (with_reducible refine fin_ret0 (hs0.trans hs) ?_)); intro wa hk; (first | (rename_i h1 h2; (first | (rw [h2]) | skip); exact Own.nil _ _ _ _ _) | exact (ho.kp hk).tight)) | ((with_reducible apply m_appS); (case own => assumption); (case hs => assumption); (case h0 => exact fun _ h => h); (case he => kernel_rfl); (case src => exact Sl.mv ha (Since.mv hs)); (case h1 => simp [one]); (case hb => simp; omega); (case hl => simp; omega); intro acc w X hs1 ho hc hat; replace hs := hs1; rw [List.nil_append] at ho)
theorem d_clone_versions {w : World} {X : XS} {a : Value} {xs : List Ver} (ha : Sl w X 6 a (xs.map Ver.l)) (hb : xs.length ≤ 2 ^ 40) :
    Ct Tryz.prog 317 #[a] w X nX fun v wa w' => Own w' (made wa w') wa.heap.size 337 6 v (xs.map Ver.l) := by
    intro w0 hk
    replace ha := ha.mv hk.mvo
    apply ok_slices_Clone_sl_api_Version_api_Version; unfold vc_slices_Clone_sl_api_Version_api_Version
    have hs := Since.init w0
    repeat' first | with_reducible (first | apply condW_T | apply condW_F) | ((with_reducible apply m_snil); (· exact qO); (· kernel_rfl); all_goals intros) | ((with_reducible apply m_bs0); (case hX => exact hs.has); (case hu => kernel_rfl); (case hz => kernel_rfl); intro acc w X hs1 ho; replace hs := hs.trans hs1) | ((first | (with_reducible refine fin_ret0 hs ?_) | (with_reducible refine fin_ret0 (hs0.trans hs) ?_)); intro wa hk; (first | (rename_i h1 h2; (first | (rw [h2]) | skip); exact Own.nil _ _ _ _ _) | exact (ho.kp hk).tight)) | ((with_reducible apply m_appS); (case own => assumption); (case hs => assumption); (case h0 => exact fun _ h => h); (case he => kernel_rfl); (case src => exact Sl.mv ha (Since.mv hs)); (case h1 => simp [one]); (case hb => simp; omega); (case hl => simp; omega); intro acc w X hs1 ho hc hat; replace hs := hs1; rw [List.nil_append] at ho)
theorem d_index_texts {w : World} {X : XS} {a : Value} {xs : List BA} {k : BA} (ha : Sl w X 1 a (xs.map S1)) :
    Ct Tryz.prog 371 #[a, .string k] w X nX fun v _ _ => v = I (idxOf (fun x => decide (k = x)) xs) := by
  intro w0 hk
  replace ha := ha.mv hk.mvo
  have hla := ha.len'
  apply ok_slices_Index_sl_string_string; unfold vc_slices_Index_sl_string_string
  have hs := Since.init w0
  repeat' first | ((with_reducible apply m_lnS); (· exact qO); (· kernel_rfl))
  refine lp1_of (fun n a w X => ∃ i : Nat, a = I (i : Nat) ∧ n = (xs).length - i ∧ i ≤ (xs).length ∧ Since (old w0) w0 X w ∧ (∀ (j : Nat) x, j < i → xs[j]? = some x → decide (k = x) = false)) (xs).length ⟨0, rfl, rfl, Nat.zero_le _, hs, by simp⟩ ?_
  rintro n a w X ⟨i, rfl, rfl, hi, hs, hw⟩
  rcases at_or (xs) i with ⟨hlt, x, hx, hd⟩ | ⟨hge, hd⟩
  · repeat' first | ((with_reducible refine r_lssT ?_ ?_); (· omega)) | with_reducible (first | apply condW_T | apply condW_F) | (with_reducible apply r_seql <;> intro _) | ((with_reducible apply m_ld1); (· exact qF); (· exact qM); (· kernel_rfl); (· rfl)) | ((with_reducible apply m_ixS); (· exact qO); (try (case hz => rfl)); (case hr => exact qR); (try (case hz => omega)); (case ht => kernel_rfl); (case hs => kernel_rfl); intro _ _ _) | ((with_reducible apply r_add); (· omega); (· omega)) | ((first | (with_reducible refine fin_ret0 hs ?_) | (with_reducible refine fin_ret0 (hs0.trans hs) ?_)); intro wa hk; (rw [idxOf_at hw hx (by simpa)])) | ((with_reducible refine nx1_of ((xs).length - (i + 1)) ?_ ?_); (· omega); exact ⟨i + 1, by simp, rfl, by omega, hs, fun j y hj hy => by rcases Nat.lt_succ_iff_lt_or_eq.1 hj with h | h; exact hw j y h hy; subst h; rw [hx] at hy; cases hy; simpa⟩)
  · repeat' first | ((with_reducible refine r_lssF ?_ ?_); (· omega)) | with_reducible apply condW_F | ((first | (with_reducible refine fin_ret0 hs ?_) | (with_reducible refine fin_ret0 (hs0.trans hs) ?_)); intro wa hk; (rw [idxOf_none fun j x hj hx => hw j x (by omega) hx]))
theorem d_contains_texts {w : World} {X : XS} {a : Value} {xs : List BA} {k : BA} (ha : Sl w X 1 a (xs.map S1)) :
    Ct Tryz.prog 351 #[a, .string k] w X nX fun v _ _ => v = B (xs.any fun x => decide (k = x)) := by
  intro w0 hk
  replace ha := ha.mv hk.mvo
  apply ok_slices_Contains_sl_string_string; unfold vc_slices_Contains_sl_string_string
  have hs := Since.init w0
  repeat' first | (with_reducible apply r_geq <;> intro _) | ((first | (with_reducible refine fin_ret0 hs ?_) | (with_reducible refine fin_ret0 (hs0.trans hs) ?_)); intro wa hk; (rw [← idxOf_any]; simp [*])) | (refine r_ct0V (d_index_texts  qA) (by kernel_rfl) hs.has ?_; intro w X hs1; replace hs := hs.trans hs1)
theorem d_indexFunc_writes {w : World} {X : XS} {a : Value} {xs : List KV} {f : FuncId} {cs : List Value} {p : KV → Bool} (ha : Sl w X 4 a (xs.map KV.l)) (hX : ∀ k, X k → k < w.heap.size) (hf : enters Tryz.prog f = true)
    (hp : ∀ x, Ct Tryz.prog f ((.agg x.l.toArray) :: cs).toArray w X nX fun v _ _ => v = B (p x)) :
    Ct Tryz.prog 379 #[a, .func (.func f) #[] cs.toArray] w X nX fun v _ _ => v = I (idxOf p xs) := by
  intro w0 hk
  replace ha := ha.mv hk.mvo
  replace hp := fun x => ((hp x).kp hk).old fun k hx => Nat.lt_of_lt_of_le (hX k hx) hk.size
  have hla := ha.len'
  apply ok_slices_IndexFunc_sl_api_Write_api_Write; unfold vc_slices_IndexFunc_sl_api_Write_api_Write
  have hs := Since.init w0
  repeat' first | ((with_reducible apply m_lnS); (· exact qO); (· kernel_rfl))
  refine lp1_of (fun n a w X => ∃ i : Nat, a = I (i : Nat) ∧ n = (xs).length - i ∧ i ≤ (xs).length ∧ Since (old w0) w0 X w ∧ (∀ (j : Nat) x, j < i → xs[j]? = some x → p x = false)) (xs).length ⟨0, rfl, rfl, Nat.zero_le _, hs, by simp⟩ ?_
  rintro n a w X ⟨i, rfl, rfl, hi, hs, hw⟩
  rcases at_or (xs) i with ⟨hlt, x, hx, hd⟩ | ⟨hge, hd⟩
  · repeat' first | ((with_reducible refine r_lssT ?_ ?_); (· omega)) | with_reducible (first | apply condW_T | apply condW_F) | ((with_reducible apply m_ldA); (· exact qF); (· exact qM); (· kernel_rfl); (· rfl)) | ((with_reducible apply m_ixS); (· exact qO); (try (case hz => rfl)); (case hr => exact qR); (try (case hz => omega)); (case ht => kernel_rfl); (case hs => kernel_rfl); intro _ _ _) | ((with_reducible apply r_add); (· omega); (· omega)) | ((with_reducible apply m_fun); (· rfl)) | ((first | (with_reducible refine fin_ret0 hs ?_) | (with_reducible refine fin_ret0 (hs0.trans hs) ?_)); intro wa hk; (rw [idxOf_at hw hx ‹_›])) | ((with_reducible refine nx1_of ((xs).length - (i + 1)) ?_ ?_); (· omega); exact ⟨i + 1, by simp, rfl, by omega, hs, fun j y hj hy => by rcases Nat.lt_succ_iff_lt_or_eq.1 hj with h | h; exact hw j y h hy; subst h; rw [hx] at hy; cases hy; assumption⟩) | (refine r_ct0B ((hp x).since hs) hf hs.has ?_ ?_ <;> (intro _ w X hs1; replace hs := hs.trans hs1))
  · repeat' first | ((with_reducible refine r_lssF ?_ ?_); (· omega)) | with_reducible apply condW_F | ((first | (with_reducible refine fin_ret0 hs ?_) | (with_reducible refine fin_ret0 (hs0.trans hs) ?_)); intro wa hk; (rw [idxOf_none fun j x hj hx => hw j x (by omega) hx]))
theorem d_containsFunc_writes {w : World} {X : XS} {a : Value} {xs : List KV} {f : FuncId} {cs : List Value} {p : KV → Bool} (ha : Sl w X 4 a (xs.map KV.l)) (hX : ∀ k, X k → k < w.heap.size) (hf : enters Tryz.prog f = true)
    (hp : ∀ x, Ct Tryz.prog f ((.agg x.l.toArray) :: cs).toArray w X nX fun v _ _ => v = B (p x)) :
    Ct Tryz.prog 369 #[a, .func (.func f) #[] cs.toArray] w X nX fun v _ _ => v = B (xs.any p) := by
  intro w0 hk
  replace ha := ha.mv hk.mvo
  replace hp := fun x => ((hp x).kp hk).old fun k hx => Nat.lt_of_lt_of_le (hX k hx) hk.size
  apply ok_slices_ContainsFunc_sl_api_Write_api_Write; unfold vc_slices_ContainsFunc_sl_api_Write_api_Write
  have hs := Since.init w0
  repeat' first | (with_reducible apply r_geq <;> intro _) | ((first | (with_reducible refine fin_ret0 hs ?_) | (with_reducible refine fin_ret0 (hs0.trans hs) ?_)); intro wa hk; (rw [← idxOf_any]; simp [*])) | (refine r_ct0V (d_indexFunc_writes ha hs.has hf hp) (by kernel_rfl) hs.has ?_; intro w X hs1; replace hs := hs.trans hs1)
end Go.Proofs.YtpdkoaklobnegaaGreat
namespace Go.Proofs.YtpdkoaklobnegaaGreat
open Go.Eng
set_option maxRecDepth 100000
set_option maxHeartbeats 1000000
set_option linter.unusedVariables false
set_option linter.unusedSimpArgs false
attribute [local irreducible] un jn chk fld ld1 ldA st1 ixS lnS lnT bld cvI cvF ixA bsS apS rdV rdW grdW eW eV eU eC eF gE condW fin pickN nilN binS vS lp0 lp1 lp2 lp3 lp4 lp5 lp6 lp7 nx0 nx1 nx2 nx3 nx4 nx5 nx6 nx7
def tle (a b : BA) : Bool := tlt a b || decide (a = b)
def versFrom : Stamp → List Ver → Bool
  | _, [] => true
  | s, v :: r => v.stamp.may && decide (v.stamp.cmp s > 0) && v.val.may && versFrom v.stamp r
def Hist.ok (h : Hist) (ahead : BA) : Bool := goodKey h.key && !tle h.key ahead && decide (h.vers ≠ []) && versFrom .zero h.vers
theorem d_mvcc_history {w : World} {X : XS} {h : Hist} {vv : Value} {ahead : BA} (ha : Sl w X 6 vv (h.vers.map Ver.l)) :
    Ct Tryz.prog 316 #[.agg (h.l vv).toArray, .string ahead] w X nX fun v _ _ => v = B (h.ok ahead) := by
  intro w0 hk
  replace ha := ha.mv hk.mvo
  have hla := ha.len'
  apply ok_mvcc_history; unfold vc_mvcc_history
  have hs := Since.init w0
  repeat' first | with_reducible (first | apply condW_T | apply condW_F | apply un_box | apply un_selF | apply un_selTF | apply grdV_onF | apply grdW_offF | apply rdW_pickT | apply rdW_pickF | apply r_notT | apply r_notF) | (with_reducible apply r_eql <;> intro _) | (with_reducible apply r_sleq <;> intros) | ((with_reducible apply m_lnS); (· exact qO); (· kernel_rfl)) | ((with_reducible apply r_bld); (· kernel_rfl)) | ((with_reducible apply m_chkc); (case h => exact qE)) | ((with_reducible apply chk_T); (· exact qC)) | ((with_reducible refine r_pureB (c_datum_Key _) ?_ hs.has ?_ ?_); (· kernel_rfl); all_goals (intro _ w X hs1; replace hs := hs.trans hs1)) | ((first | (with_reducible refine fin_ret0 hs ?_) | (with_reducible refine fin_ret0 (hs0.trans hs) ?_)); intro wa hk; (simp_all [Hist.ok, tle] <;> grind))
  refine lp2_of (fun n a b w X => ∃ (i : Nat) (s : Stamp), a = I i ∧ b = s.v ∧ n = h.vers.length - i ∧ i ≤ h.vers.length ∧ Since (old w0) w0 X w ∧ versFrom .zero h.vers = versFrom s (h.vers.drop i)) h.vers.length
    ⟨0, .zero, rfl, rfl, rfl, Nat.zero_le _, hs, by simp⟩ ?_
  rintro n a b w X ⟨i, s, rfl, rfl, rfl, hi, hs, hw⟩
  have hne : h.vers ≠ [] := by intro e; simp_all
  rcases at_or (h.vers) i with ⟨hlt, x, hx, hd⟩ | ⟨hge, hd⟩
  · rw [hd, versFrom] at hw
    clear hd
    repeat' first | ((with_reducible refine r_lssT ?_ ?_); (· omega)) | with_reducible (first | apply condW_T | apply condW_F) | ((with_reducible apply m_sub); (· exact qN)) | with_reducible (first | apply un_box | apply un_selF | apply un_selTF | apply grdV_onF | apply grdW_offF | apply rdW_pickT | apply rdW_pickF | apply gE_F | apply gE_TF | apply r_notT | apply r_notF) | (with_reducible apply r_leq <;> intro _) | ((with_reducible apply m_ldA); (· exact qF); (· exact qM); (· kernel_rfl); (· rfl)) | ((with_reducible apply m_ixS); (· exact qO); (try (case hz => rfl)); (case hr => exact qR); (try (case hz => omega)); (case ht => kernel_rfl); (case hs => kernel_rfl); intro _ _ _) | ((with_reducible apply m_chkc); (case h => exact qE)) | ((with_reducible apply chk_T); (· exact qC)) | ((with_reducible apply r_add); (· omega); (· omega)) | with_reducible apply jn_of | ((with_reducible refine r_pure (c_hlc_Compare _ _) ?_ hs.has ?_); (· kernel_rfl); intro w X hs1; replace hs := hs.trans hs1) | ((with_reducible refine r_pureB (c_datum_May _) ?_ hs.has ?_ ?_); (· kernel_rfl); all_goals (intro _ w X hs1; replace hs := hs.trans hs1)) | ((with_reducible refine r_pureB (c_hlc_May _) ?_ hs.has ?_ ?_); (· kernel_rfl); all_goals (intro _ w X hs1; replace hs := hs.trans hs1)) | ((first | (with_reducible refine fin_ret0 hs ?_) | (with_reducible refine fin_ret0 (hs0.trans hs) ?_)); intro wa hk; (simp_all [Hist.ok, tle] <;> grind)) | ((with_reducible refine nx2_of ((h.vers).length - (i + 1)) ?_ ?_); (· omega); exact ⟨i + 1, x.stamp, by simp, rfl, rfl, by omega, hs, by simp_all⟩)
  · repeat' first | ((with_reducible refine r_lssF ?_ ?_); (· omega)) | with_reducible apply condW_F | ((first | (with_reducible refine fin_ret0 hs ?_) | (with_reducible refine fin_ret0 (hs0.trans hs) ?_)); intro wa hk; (simp_all [Hist.ok, tle, versFrom] <;> grind))
def Pend.has (p : Pend) (k : BA) : Bool := p.writes.any fun w => decide (w.key = k)
theorem d_mvcc_writes_c1 {w : World} {X : XS} {x : KV} {k : BA} {b : Nat} (h : Cells w X b 0 [.string k]) :
    Ct Tryz.prog 370 #[.agg x.l.toArray, ptr b 0] w X nX fun v _ _ => v = B (decide (x.key = k)) := by
  intro w0 hk
  replace h := h.mv hk.mvo
  apply ok_mvcc_writes_c1; unfold vc_mvcc_writes_c1
  have hs := Since.init w0
  repeat' first | (with_reducible apply r_seql <;> intro _) | ((with_reducible apply m_ld1); (· exact qF); (· exact qM); (· kernel_rfl); (· rfl)) | ((first | (with_reducible refine fin_ret0 hs ?_) | (with_reducible refine fin_ret0 (hs0.trans hs) ?_)); intro wa hk; simp_all)
theorem d_mvcc_writes {w : World} {X : XS} {p : Pend} {vr vw : Value} {k : BA} (hX : ∀ k, X k → k < w.heap.size) (h2 : Sl w X 4 vw (p.writes.map KV.l)) :
    Ct Tryz.prog 350 #[p.v vr vw, .string k] w X nX fun v _ _ => v = B (p.has k) := by
  intro w0 hk
  replace h2 := h2.mv hk.mvo
  apply ok_mvcc_writes; unfold vc_mvcc_writes
  have hs := Since.init w0
  repeat' first | ((with_reducible apply m_boxS); (case ho => rfl); (case hX => exact hs.has); intro bx w X hbx hs1 hrow; have hs0 := hs.trans hs1; replace hs := Since.refl' hs1.has) | (with_reducible apply m_mkFun) | ((first | (with_reducible refine fin_ret0 hs ?_) | (with_reducible refine fin_ret0 (hs0.trans hs) ?_)); intro wa hk; (simp [Pend.has])) | (refine r_ct0V (d_containsFunc_writes (p := fun x => decide (x.key = k)) (h2.mv (Since.mv (hs0.trans hs))) hs.has (by kernel_rfl) fun x => d_mvcc_writes_c1 (x := x) (by first | exact hrow.cells)) (by kernel_rfl) hs.has ?_; intro w X hs1; replace hs := hs.trans hs1)
end Go.Proofs.YtpdkoaklobnegaaGreat
namespace Go.Proofs.YtpdkoaklobnegaaGreat
open Go.Eng
set_option maxRecDepth 100000
set_option maxHeartbeats 1000000
set_option linter.unusedVariables false
set_option linter.unusedSimpArgs false
attribute [local irreducible] un jn chk fld ld1 ldA st1 ixS lnS lnT bld cvI cvF ixA bsS apS rdV rdW grdW eW eV eU eC eF gE condW fin pickN nilN binS vS lp0 lp1 lp2 lp3 lp4 lp5 lp6 lp7 nx0 nx1 nx2 nx3 nx4 nx5 nx6 nx7
theorem key_txn : KeyOf Tryz.prog 33 (fun k : Txn => k.v) :=
  key_ints (n := 3) (by kernel_rfl) (fun k : Txn => [k.coord, k.life, k.sq]) (fun _ => rfl) (fun a b h => by
    simp only [List.cons.injEq, and_true] at h
    exact Txn.ext h.1 h.2.1 h.2.2)
theorem key_text : KeyOf Tryz.prog 9 (fun s : BA => Value.string s) := key_string (by kernel_rfl)
def rdVers (w : World) (A : XS) (v : Value) (l : List Ver) : Prop := Sl w A 6 v (l.map Ver.l)
def rdPend (w : World) (A : XS) (v : Value) (p : Pend) : Prop := ∃ vr vw, v = p.v vr vw ∧ Sl w A 1 vr (p.reads.map S1) ∧ Sl w A 4 vw (p.writes.map KV.l)
theorem rdVers.mv : MovesV rdVers := fun _ _ _ _ _ _ h m => Sl.mv h m
theorem rdPend.mv : MovesV rdPend := fun _ _ _ _ _ _ ⟨vr, vw, h, h1, h2⟩ m => ⟨vr, vw, h, h1.mv m, h2.mv m⟩
structure StoreIs (w : World) (X A : XS) (sb kb pb : Nat) (hm : List (BA × List Ver)) (pm : List (Txn × Pend)) (low : Stamp) : Prop where
  box : RowIs w X sb [.map (some kb), .map (some pb), I low.wall, I low.logic, I low.node] 382
  keys : MapR w X A kb (fun s : BA => Value.string s) rdVers hm
  pend : MapR w X A pb (fun k : Txn => k.v) rdPend pm
  sub : ∀ k, A k → X k
  off : ∀ k, A k → k ≠ sb ∧ k ≠ kb ∧ k ≠ pb
theorem StoreIs.mv {w w' : World} {X Y A : XS} {sb kb pb : Nat} {hm : List (BA × List Ver)} {pm : List (Txn × Pend)} {low : Stamp} (h : StoreIs w X A sb kb pb hm pm low)
    (hX : ∀ k, X k → k < w.heap.size) (m : Mv X w Y w') : StoreIs w' Y A sb kb pb hm pm low := by
  have ma : Mv A w A w' := fun k hk hl => ⟨hk, (m k (h.sub k hk) hl).2⟩
  exact ⟨h.box.mv m, h.keys.mv rdVers.mv m ma, h.pend.mv rdPend.mv m ma, fun k hk => (m k (h.sub k hk) (hX k (h.sub k hk))).1, h.off⟩
theorem r_versOf {w : World} {X A : XS} {kb : Nat} {hm : List (BA × List Ver)} {k : BA} {N : Value → Prop} {w0 : World} {X0 : XS} (h : MapR w0 X0 A kb (fun s : BA => Value.string s) rdVers hm) (hA : ∀ k, A k → X0 k) (m : Mv X0 w0 X w)
    (n : ∀ v, Sl w0 X0 6 v (((getM k hm).getD []).map Ver.l) → N v) : rdV Tryz.prog X w (Instr.lookup 379 (.map (some kb)) (.string k) false) N := by
  have h' : MapR w X A kb (fun s : BA => Value.string s) rdVers hm := h.mv rdVers.mv m fun k hk hl => ⟨hk, (m k (hA k hk) hl).2⟩
  obtain ⟨es, c, h1, h2⟩ := h
  have m' : Mv A w0 A w := fun k hk hl => ⟨hk, (m k (hA k hk) hl).2⟩
  refine m_mapGet1 (et := 286) (A := X) (rd := fun w X v l => Sl w0 A 6 v (l.map Ver.l)) (l := hm) (.slice none 0 0) ?_ key_text (by kernel_rfl) (by kernel_rfl) (fun v a hg hr => ?_) fun hg => ?_
  · exact ⟨es, c, h1.mv m, by
      clear h1 h' n
      induction es generalizing hm with
      | nil => cases hm <;> first | trivial | exact h2.elim
      | cons e es ih => cases hm with
        | nil => exact h2.elim
        | cons x l => exact ⟨h2.1, h2.2.1, ih h2.2.2⟩⟩
  · exact n v (by rw [hg]; exact Sl.mv hr (Mv.sub hA))
  · exact n _ (by rw [hg]; exact Sl.nil _ _ _)
def Pend.clash (x q : Pend) : Bool := x.writes.any (fun w => q.has w.key || q.reads.any fun k => decide (w.key = k)) || x.reads.any fun k => q.has k
def newestOf (l : List Ver) (at' : Stamp) (all : Bool) : Val × Stamp := l.foldl (fun s v => if all || decide (v.stamp.cmp at' ≤ 0) then (v.val, v.stamp) else s) (.zero, .zero)
def versOf (hm : List (BA × List Ver)) (k : BA) : List Ver := (getM k hm).getD []
abbrev seenV (k : BA) (s : Val × Stamp) : Value := .agg #[.string k, I s.1.kind, .float .f64 s.1.num, .string s.1.text, I s.2.wall, I s.2.logic, I s.2.node]
theorem d_mvcc_newest {w : World} {X A : XS} {sb kb pb : Nat} {hm : List (BA × List Ver)} {pm : List (Txn × Pend)} {low at' : Stamp} {k : BA} {all : Bool}
    (h : StoreIs w X A sb kb pb hm pm low) (hX : ∀ k, X k → k < w.heap.size) :
    Ct Tryz.prog 372 #[ptr sb 0, .string k, at'.v, B all] w X nX fun v _ _ => v = seenV k (newestOf (versOf hm k) at' all) := by
  intro w0 hk
  replace h := h.mv hX hk.mvo
  have hbx := h.box
  have hkm := h.keys
  apply ok_mvcc_Store_newest; unfold vc_mvcc_Store_newest
  have hs := Since.init w0
  repeat' first | with_reducible (first | apply un_box | apply r_nil) | ((with_reducible apply m_fld1); (· exact qF); (· kernel_rfl); (· rfl); intro _ _ _) | ((with_reducible apply m_ld1); (· exact qF); (· exact qM); (· kernel_rfl); (· rfl)) | ((with_reducible apply r_bld); (· kernel_rfl)) | ((with_reducible apply m_chkc); (case h => exact qE)) | ((with_reducible apply chk_T); (· exact qC))
  refine r_versOf hkm h.sub (Mv.refl _ _) fun vv hvv => ?_
  show rdV _ _ _ _ _
  have hvs : versOf hm k = (getM k hm).getD [] := rfl
  rw [← hvs] at hvv
  generalize versOf hm k = vs at hvv
  have hla := hvv.len'
  repeat' first | ((with_reducible apply m_lnS); (· exact qO); (· kernel_rfl))
  refine lp2_of (fun n a b w X => ∃ (i : Nat) (s : Val × Stamp), a = I i ∧ b = seenV k s ∧ n = vs.length - i ∧ i ≤ vs.length ∧ Since (old w0) w0 X w ∧
    newestOf vs at' all = (vs.drop i).foldl (fun s v => if all || decide (v.stamp.cmp at' ≤ 0) then (v.val, v.stamp) else s) s) vs.length ⟨0, (.zero, .zero), rfl, rfl, rfl, Nat.zero_le _, hs, by rw [List.drop_zero]; rfl⟩ ?_
  rintro n a b w X ⟨i, s, rfl, rfl, rfl, hi, hs, hw⟩
  rcases at_or (vs) i with ⟨hlt, x, hx, hd⟩ | ⟨hge, hd⟩
  · rw [hd, List.foldl_cons] at hw
    cases all
    · repeat' first | ((with_reducible refine r_lssT ?_ ?_); (· omega)) | with_reducible (first | apply condW_T | apply condW_F) | ((with_reducible apply m_sub); (· exact qN)) | ((with_reducible apply m_set); (· exact qN)) | with_reducible (first | apply un_box | apply un_selF | apply grdV_onF | apply rdW_pickF | apply gE_F) | (with_reducible apply r_leq <;> intro _) | ((with_reducible apply m_ldA); (· exact qF); (· exact qM); (· kernel_rfl); (· rfl)) | ((with_reducible apply m_ixS); (· exact qO); (try (case hz => rfl)); (case hr => exact qR); (try (case hz => omega)); (case ht => kernel_rfl); (case hs => kernel_rfl); intro _ _ _) | ((with_reducible apply m_chkc); (case h => exact qE)) | ((with_reducible apply chk_T); (· exact qC)) | ((with_reducible apply r_add); (· omega); (· omega)) | with_reducible apply jn_of | ((with_reducible refine r_pure (c_hlc_Compare _ _) ?_ hs.has ?_); (· kernel_rfl); intro w X hs1; replace hs := hs.trans hs1) | ((with_reducible refine nx2_of ((vs).length - (i + 1)) ?_ ?_); (· omega); exact ⟨i + 1, (x.val, x.stamp), by simp, rfl, rfl, by omega, hs, by rw [hw]; simp [*]⟩) | ((with_reducible refine nx2_of ((vs).length - (i + 1)) ?_ ?_); (· omega); exact ⟨i + 1, s, by simp, rfl, rfl, by omega, hs, by rw [hw]; simp [*]⟩)
    · repeat' first | ((with_reducible refine r_lssT ?_ ?_); (· omega)) | with_reducible apply condW_T | ((with_reducible apply m_sub); (· exact qN)) | ((with_reducible apply m_set); (· exact qN)) | with_reducible (first | apply un_box | apply un_selTF | apply grdW_offF | apply rdW_pickT | apply gE_TF) | ((with_reducible apply m_ldA); (· exact qF); (· exact qM); (· kernel_rfl); (· rfl)) | ((with_reducible apply m_ixS); (· exact qO); (try (case hz => rfl)); (case hr => exact qR); (try (case hz => omega)); (case ht => kernel_rfl); (case hs => kernel_rfl); intro _ _ _) | ((with_reducible apply m_chkc); (case h => exact qE)) | ((with_reducible apply chk_T); (· exact qC)) | ((with_reducible apply r_add); (· omega); (· omega)) | with_reducible apply jn_of | ((with_reducible refine nx2_of ((vs).length - (i + 1)) ?_ ?_); (· omega); exact ⟨i + 1, (x.val, x.stamp), by simp, rfl, rfl, by omega, hs, by rw [hw]; simp [*]⟩)
  · repeat' first | ((with_reducible refine r_lssF ?_ ?_); (· omega)) | with_reducible apply condW_F | ((with_reducible apply m_sub); (· exact qN)) | with_reducible apply un_box | ((with_reducible apply m_chkc); (case h => exact qE)) | ((with_reducible apply chk_T); (· exact qC)) | ((first | (with_reducible refine fin_ret0 hs ?_) | (with_reducible refine fin_ret0 (hs0.trans hs) ?_)); intro wa hk; (rw [hw, hd]; rfl))
theorem d_mvcc_Newest {w : World} {X A : XS} {sb kb pb : Nat} {hm : List (BA × List Ver)} {pm : List (Txn × Pend)} {low : Stamp} {k : BA}
    (h : StoreIs w X A sb kb pb hm pm low) (hX : ∀ k, X k → k < w.heap.size) :
    Ct Tryz.prog 352 #[ptr sb 0, .string k] w X nX fun v _ _ => v = seenV k (newestOf (versOf hm k) .zero true) := by
  intro w0 hk
  replace h := h.mv hX hk.mvo
  apply ok_mvcc_Store_Newest; unfold vc_mvcc_Store_Newest
  have hs := Since.init w0
  repeat' first | ((with_reducible apply m_sub); (· exact qN)) | with_reducible apply un_box | ((with_reducible apply r_bld); (· kernel_rfl)) | ((with_reducible apply m_chkc); (case h => exact qE)) | ((with_reducible apply chk_T); (· exact qC)) | ((first | (with_reducible refine fin_ret0 hs ?_) | (with_reducible refine fin_ret0 (hs0.trans hs) ?_)); intro wa hk; rfl) | (refine r_ct0V (d_mvcc_newest (at' := .zero) h hs.has) (by kernel_rfl) hs.has ?_; intro w X hs1; replace hs := hs.trans hs1)
def oldFor (hm : List (BA × List Ver)) (x : Pend) : Bool := x.writes.any fun w => decide ((newestOf (versOf hm w.key) .zero true).2.cmp x.stamp ≥ 0)
theorem d_mvcc_old {w : World} {X A : XS} {sb kb pb : Nat} {hm : List (BA × List Ver)} {pm : List (Txn × Pend)} {low : Stamp} {x : Pend} {vr vw : Value}
    (h : StoreIs w X A sb kb pb hm pm low) (hX : ∀ k, X k → k < w.heap.size) (h2 : Sl w X 4 vw (x.writes.map KV.l)) :
    Ct Tryz.prog 319 #[ptr sb 0, x.v vr vw] w X nX fun v _ _ => v = B (oldFor hm x) := by
  intro w0 hk
  replace h := h.mv hX hk.mvo
  replace h2 := h2.mv hk.mvo
  have hla := h2.len'
  apply ok_mvcc_Store_old; unfold vc_mvcc_Store_old
  have hs := Since.init w0
  repeat' first | ((with_reducible apply m_lnS); (· exact qO); (· kernel_rfl))
  refine lp1_of (fun n a w X => ∃ i : Nat, a = I (i : Nat) ∧ n = (x.writes).length - i ∧ i ≤ (x.writes).length ∧ Since (old w0) w0 X w ∧ oldFor hm x = (x.writes.drop i).any (fun w => decide ((newestOf (versOf hm w.key) .zero true).2.cmp x.stamp ≥ 0))) (x.writes).length ⟨0, rfl, rfl, Nat.zero_le _, hs, by simp [oldFor]⟩ ?_
  rintro n a w X ⟨i, rfl, rfl, hi, hs, hw⟩
  rcases at_or (x.writes) i with ⟨hlt, y, hy, hd⟩ | ⟨hge, hd⟩
  · rw [hd, List.any_cons] at hw
    repeat' first | ((with_reducible refine r_lssT ?_ ?_); (· omega)) | with_reducible (first | apply condW_T | apply condW_F) | ((with_reducible apply un_cell); (· rfl)) | with_reducible apply un_box | (with_reducible apply r_geq <;> intro _) | ((with_reducible apply m_ldA); (· exact qF); (· exact qM); (· kernel_rfl); (· rfl)) | ((with_reducible apply m_ixS); (· exact qO); (try (case hz => rfl)); (case hr => exact qR); (try (case hz => omega)); (case ht => kernel_rfl); (case hs => kernel_rfl); intro _ _ _) | ((with_reducible apply m_chkc); (case h => exact qE)) | ((with_reducible apply chk_T); (· exact qC)) | ((with_reducible apply r_add); (· omega); (· omega)) | ((with_reducible apply r_fdVn); (case hf => kernel_rfl); (case hg => kernel_rfl); (case hlen => rfl); (case hl => exact qN)) | ((with_reducible refine r_pure (c_hlc_Compare _ _) ?_ hs.has ?_); (· kernel_rfl); intro w X hs1; replace hs := hs.trans hs1) | ((first | (with_reducible refine fin_ret0 hs ?_) | (with_reducible refine fin_ret0 (hs0.trans hs) ?_)); intro wa hk; simp_all) | ((with_reducible refine nx1_of ((x.writes).length - (i + 1)) ?_ ?_); (· omega); exact ⟨i + 1, by simp, rfl, by omega, hs, by rw [hw]; simp [*]⟩) | (refine r_ct0V (d_mvcc_Newest (h.mv (fun _ h => h) (Since.mv hs)) hs.has) (by kernel_rfl) hs.has ?_; intro w X hs1; replace hs := hs.trans hs1)
  · repeat' first | ((with_reducible refine r_lssF ?_ ?_); (· omega)) | with_reducible apply condW_F | ((first | (with_reducible refine fin_ret0 hs ?_) | (with_reducible refine fin_ret0 (hs0.trans hs) ?_)); intro wa hk; simp_all)
end Go.Proofs.YtpdkoaklobnegaaGreat
namespace Go.Proofs.YtpdkoaklobnegaaGreat
open Go.Eng
set_option maxRecDepth 100000
set_option maxHeartbeats 1000000
set_option linter.unusedVariables false
set_option linter.unusedSimpArgs false
attribute [local irreducible] un jn chk fld ld1 ldA st1 ixS lnS lnT bld cvI cvF ixA bsS apS rdV rdW grdW eW eV eU eC eF gE condW fin pickN nilN binS vS lp0 lp1 lp2 lp3 lp4 lp5 lp6 lp7 nx0 nx1 nx2 nx3 nx4 nx5 nx6 nx7
theorem d_mvcc_locked {w : World} {X A : XS} {sb kb pb : Nat} {hm : List (BA × List Ver)} {pm : List (Txn × Pend)} {low : Stamp} {x : Pend} {vr vw : Value}
    (h : StoreIs w X A sb kb pb hm pm low) (hX : ∀ k, X k → k < w.heap.size) (h1 : Sl w X 1 vr (x.reads.map S1)) (h2 : Sl w X 4 vw (x.writes.map KV.l)) :
    Ct Tryz.prog 318 #[ptr sb 0, x.v vr vw] w X nX fun v _ _ => v = B (pm.any fun q => x.clash q.2) := by
  intro w0 hk
  replace h := h.mv hX hk.mvo
  replace h1 := h1.mv hk.mvo
  replace h2 := h2.mv hk.mvo
  have hbx := h.box
  have hl1 := h1.len'
  have hl2 := h2.len'
  apply ok_mvcc_Store_locked; unfold vc_mvcc_Store_locked
  have hs := Since.init w0
  repeat' first | with_reducible apply r_nil | ((with_reducible apply m_fld1); (· exact qF); (· kernel_rfl); (· rfl); intro _ _ _) | ((with_reducible apply m_ld1); (· exact qF); (· exact qM); (· kernel_rfl); (· rfl))
  refine m_range (kt := 33) (et := 229) h.pend rdPend.mv h.sub (by kernel_rfl) hs.has fun r w X hr hs1 hit => ?_
  replace hs := hs.trans hs1
  refine lp2_of (fun n _ _ w X => ∃ left, n = left.length ∧ Since (old w0) w0 X w ∧ ItR w X A r pb (fun k : Txn => k.v) rdPend pm left ∧ (pm.any fun q => x.clash q.2) = left.any fun q => x.clash q.2)
    pm.length ⟨pm, rfl, hs, hit, rfl⟩ ?_
  rintro n a b w X ⟨left, rfl, hs, hit, hw⟩
  refine m_next hit rdPend.mv (fun k hk => ⟨hs.sub k (h.sub k hk), fun e => by have : k < w0.heap.size := h.sub k hk; omega⟩) hs.has (fun e0 w X hs1 => ?_) fun kx q v hmem w1 X1 hc hrd hit1 he => ?_
  · replace hs := hs.trans hs1
    repeat' first | with_reducible apply condW_F | ((with_reducible apply m_ext); (· rfl)) | ((first | (with_reducible refine fin_ret0 hs ?_) | (with_reducible refine fin_ret0 (hs0.trans hs) ?_)); intro wa hk; (rw [hw, e0]; rfl))
  · have hs0 := hs.chg hc fun k hk e => by have : k < w0.heap.size := hk; omega
    obtain ⟨ur, uw, rfl, q1, q2⟩ := hrd
    have hA1 : ∀ k, A k → X1 k := fun k hk => hs0.sub k (h.sub k hk)
    replace q1 := q1.mv (Mv.sub hA1)
    replace q2 := q2.mv (Mv.sub hA1)
    have o1 := q1.one
    have o2 := q2.one
    rw [any_split _ hit.nodup hmem] at hw
    replace hs := Since.refl' hs0.has
    repeat' first | with_reducible apply condW_T | ((with_reducible apply m_ext); (· rfl))
    refine m_entry hs.has he fun w X hs1 => ?_
    replace hs := hs.trans hs1
    repeat' first | with_reducible apply un_box | ((with_reducible apply m_lnS); (· exact qO); (· kernel_rfl)) | ((with_reducible apply m_ext); (· rfl)) | ((with_reducible apply m_chkc); (case h => exact qE)) | ((with_reducible apply chk_T); (· exact qC))
    refine lp1_of (fun n a w X => ∃ i : Nat, a = I (i : Nat) ∧ n = x.writes.length - i ∧ i ≤ x.writes.length ∧ Since X1 w1 X w ∧
      (x.writes.any (fun w => q.has w.key || q.reads.any fun k => decide (w.key = k)) = (x.writes.drop i).any (fun w => q.has w.key || q.reads.any fun k => decide (w.key = k)))) x.writes.length
      ⟨0, rfl, rfl, Nat.zero_le _, hs, by simp⟩ ?_
    rintro n a w X ⟨i, rfl, rfl, hi, hs, hw2⟩
    rcases at_or (x.writes) i with ⟨hlt, y, hy, hd⟩ | ⟨hge, hd⟩
    · rw [hd, List.any_cons] at hw2
      repeat' first | ((with_reducible refine r_lssT ?_ ?_); (· omega)) | with_reducible (first | apply condW_T | apply condW_F) | ((with_reducible apply un_cell); (· rfl)) | ((with_reducible apply m_sub); (· exact qN)) | with_reducible (first | apply un_box | apply un_selF | apply un_selTF | apply rdW_pickT | apply rdW_pickF | apply gE_F | apply gE_TF) | ((with_reducible apply m_ldA); (· exact qF); (· exact qM); (· kernel_rfl); (· rfl)) | ((with_reducible apply m_ixS); (· exact qO); (try (case hz => rfl)); (case hr => exact qR); (try (case hz => omega)); (case ht => kernel_rfl); (case hs => kernel_rfl); intro _ _ _) | ((with_reducible apply m_chkc); (case h => exact qE)) | ((with_reducible apply chk_T); (· exact qC)) | ((with_reducible apply r_add); (· omega); (· omega)) | with_reducible apply jn_of | ((first | (with_reducible refine fin_ret0 hs ?_) | (with_reducible refine fin_ret0 (hs0.trans hs) ?_)); intro wa hk; (rw [hw]; simp [Pend.clash, hw2, *])) | ((with_reducible refine nx1_of ((x.writes).length - (i + 1)) ?_ ?_); (· omega); exact ⟨i + 1, by simp, rfl, by omega, hs, by rw [hw2]; simp [*]⟩) | (refine r_ct0B (d_mvcc_writes  (p := q) hs.has qA) (by kernel_rfl) hs.has ?_ ?_ <;> (intro _ w X hs1; replace hs := hs.trans hs1)) | (refine r_ct0B (d_contains_texts  qA) (by kernel_rfl) hs.has ?_ ?_ <;> (intro _ w X hs1; replace hs := hs.trans hs1))
    · rw [hd] at hw2
      repeat' first | ((with_reducible refine r_lssF ?_ ?_); (· omega)) | with_reducible apply condW_F | ((with_reducible apply m_lnS); (· exact qO); (· kernel_rfl))
      refine lp1_of (fun n a w X => ∃ i : Nat, a = I (i : Nat) ∧ n = x.reads.length - i ∧ i ≤ x.reads.length ∧ Since X1 w1 X w ∧
        (x.reads.any (fun k => q.has k) = (x.reads.drop i).any (fun k => q.has k))) x.reads.length
        ⟨0, rfl, rfl, Nat.zero_le _, hs, by simp⟩ ?_
      rintro n a w X ⟨j, rfl, rfl, hj, hs, hw3⟩
      rcases at_or x.reads j with ⟨hlt, y, hy, hd2⟩ | ⟨hge2, hd2⟩
      · rw [hd2, List.any_cons] at hw3
        repeat' first | ((with_reducible refine r_lssT ?_ ?_); (· omega)) | with_reducible (first | apply condW_T | apply condW_F) | ((with_reducible apply m_sub); (· exact qN)) | ((with_reducible apply m_ld1); (· exact qF); (· exact qM); (· kernel_rfl); (· rfl)) | ((with_reducible apply m_ixS); (· exact qO); (try (case hz => rfl)); (case hr => exact qR); (try (case hz => omega)); (case ht => kernel_rfl); (case hs => kernel_rfl); intro _ _ _) | ((with_reducible apply chk_T); (· exact qC)) | ((with_reducible apply r_add); (· omega); (· omega)) | ((first | (with_reducible refine fin_ret0 hs ?_) | (with_reducible refine fin_ret0 (hs0.trans hs) ?_)); intro wa hk; (rw [hw]; simp [Pend.clash, hw3, *])) | ((with_reducible refine nx1_of (x.reads.length - (j + 1)) ?_ ?_); (· omega); exact ⟨j + 1, by simp, rfl, by omega, hs, by rw [hw3]; simp [*]⟩) | (refine r_ct0B (d_mvcc_writes  (p := q) hs.has qA) (by kernel_rfl) hs.has ?_ ?_ <;> (intro _ w X hs1; replace hs := hs.trans hs1))
      · rw [hd2] at hw3
        repeat' first | ((with_reducible refine r_lssF ?_ ?_); (· omega)) | with_reducible apply condW_F
        refine nx2_of _ (left_lt hmem) ⟨_, rfl, hs0.trans hs, hit1.mv rdPend.mv (Since.mv hs) (Since.mvA hs hA1), ?_⟩
        rw [hw]
        have : x.clash q = false := by unfold Pend.clash; rw [hw2, hw3]; rfl
        simp [this]
end Go.Proofs.YtpdkoaklobnegaaGreat
namespace Go.Proofs.YtpdkoaklobnegaaGreat
open Go.Eng
set_option maxRecDepth 100000
set_option maxHeartbeats 1000000
set_option linter.unusedVariables false
set_option linter.unusedSimpArgs false
attribute [local irreducible] un jn chk fld ld1 ldA st1 ixS lnS lnT bld cvI cvF ixA bsS apS rdV rdW grdW eW eV eU eC eF gE condW fin pickN nilN binS vS lp0 lp1 lp2 lp3 lp4 lp5 lp6 lp7 nx0 nx1 nx2 nx3 nx4 nx5 nx6 nx7
def Pend.fresh (wa w' : World) (v : Value) (p : Pend) : Prop :=
  ∃ vr vw, v = p.v vr vw ∧ Own w' (made wa w') wa.heap.size 9 1 vr (p.reads.map S1) ∧ Own w' (made wa w') wa.heap.size 53 4 vw (p.writes.map KV.l) ∧
    ∀ g, vr.ownBlock = some g → vw.ownBlock ≠ some g
theorem d_mvcc_clone {w : World} {X : XS} {p : Pend} {vr vw : Value} (h1 : Sl w X 1 vr (p.reads.map S1)) (h2 : Sl w X 4 vw (p.writes.map KV.l)) (hb1 : p.reads.length ≤ 2 ^ 40) (hb2 : p.writes.length ≤ 2 ^ 40) :
    Ct Tryz.prog 320 #[p.v vr vw] w X nX fun v wa w' => p.fresh wa w' v := by
    intro w0 hk
    replace h1 := h1.mv hk.mvo
    replace h2 := h2.mv hk.mvo
    apply ok_mvcc_clone; unfold vc_mvcc_clone
    have hs := Since.init w0
    refine r_ct0 (d_clone_texts h1 hb1) (by kernel_rfl) hs.has ?_
    rintro v1 wa w X ho1 hle1 hin1 hs1
    replace hs := hs.trans hs1
    have q1 := ho1.sl.one
    repeat' first | ((with_reducible apply chk_T); (· exact qC))
    refine r_ct0 (d_clone_writes (h2.mv (Since.mv hs)) hb2) (by kernel_rfl) hs.has ?_
    rintro v2 wb w2 X2 ho2 hle2 hin2 hs2
    have hb : w0.heap.size ≤ wa.heap.size := hle1
    have ho1X : Own w X w0.heap.size 9 1 v1 (p.reads.map S1) := ho1.up hin1 hb
    have ho1' := ho1X.since hs2
    have hlo2 : w0.heap.size ≤ wb.heap.size := Nat.le_trans hs.kp.size hle2
    have ho2' : Own w2 X2 w0.heap.size 53 4 v2 (p.writes.map KV.l) := ho2.up hin2 hlo2
    have q2 := ho2.sl.one
    replace hs := hs.trans hs2
    repeat' first | ((with_reducible apply m_chkl); (case h => exact qE)) | ((with_reducible apply chk_T); (· exact qC)) | ((first | (with_reducible refine fin_ret0 hs ?_) | (with_reducible refine fin_ret0 (hs0.trans hs) ?_)); intro wa hk; (exact ⟨v1, v2, rfl, (ho1'.kp hk).tight, (ho2'.kp hk).tight, fun g hg1 hg2 => by have := (ho1X.ge hg1).2; have := (ho2.ge hg2).1; omega⟩))
def mns (X : XS) (a b c : Nat) : XS := fun k => X k ∧ k ≠ a ∧ k ≠ b ∧ k ≠ c
theorem d_mvcc_New {w : World} {X : XS} : Ct Tryz.prog 315 #[] w X nX fun v wa w' =>
    ∃ sb kb pb, v = ptr sb 0 ∧ StoreIs w' (made wa w') (mns (made wa w') sb kb pb) sb kb pb [] [] .zero ∧ sb ≠ kb ∧ sb ≠ pb ∧ kb ≠ pb := by
  intro w0 hk
  apply ok_mvcc_New; unfold vc_mvcc_New
  have hs := Since.init w0
  refine m_makeMap (kv := fun s : BA => Value.string s) rdVers nX hs.has fun kb w1 X1 hkb hs1 hm1 => ?_
  refine m_makeMap (kv := fun k : Txn => k.v) rdPend nX hs1.has fun pb w2 X2 hpb hs2 hm2 => ?_
  have hkb1 := hm1.x
  have hpb1 := hm2.x
  have hm1' := hm1.mv rdVers.mv (Since.mv hs2) (Y := X2) (A' := nX) (fun _ h => h.elim)
  replace hs := (hs.trans hs1).trans hs2
  have hsz : w0.heap.size ≤ w1.heap.size := hs1.kp.size
  repeat' first | ((with_reducible apply r_bld); (· kernel_rfl)) | ((with_reducible apply m_boxA); (case hX => exact hs.has); intro bx w X hbx hs1 hrow; have hs0 := hs.trans hs1; replace hs := Since.refl' hs1.has)
  refine fin_ret0 (hs0.trans hs) ?_
  intro wa hk
  have hrl := (hrow.kp hk).lt
  have hsz3 := hs1.kp.size
  have hsz4 := hk.size
  have hkp2 := hs1.kp.trans (hk.less hs1.sub)
  have hkb2 : made w0 wa kb := ⟨hkb, by omega⟩
  have hpb2 : made w0 wa pb := ⟨by omega, by omega⟩
  exact ⟨bx, kb, pb, rfl, ⟨hrow.own.mv (Mv.one hk hrow.1 ⟨by omega, hrl⟩), hm1'.own.mv rdVers.mv (Mv.one hkp2 (hs2.sub _ hkb1.1) hkb2) (fun _ h => h.elim),
    hm2.own.mv rdPend.mv (Mv.one hkp2 hpb1.1 hpb2) (fun _ h => h.elim), fun k hk => hk.1, fun k hk => hk.2⟩, by omega, by omega, by omega⟩
end Go.Proofs.YtpdkoaklobnegaaGreat
namespace Go.Proofs.YtpdkoaklobnegaaGreat
open Go.Eng
set_option maxRecDepth 100000
set_option maxHeartbeats 1000000
set_option linter.unusedVariables false
set_option linter.unusedSimpArgs false
attribute [local irreducible] un jn chk fld ld1 ldA st1 ixS lnS lnT bld cvI cvF ixA bsS apS rdV rdW grdW eW eV eU eC eF gE condW fin pickN nilN binS vS lp0 lp1 lp2 lp3 lp4 lp5 lp6 lp7 nx0 nx1 nx2 nx3 nx4 nx5 nx6 nx7
def histsFrom : BA → List Hist → Bool
  | _, [] => true
  | a, h :: r => h.ok a && histsFrom h.key r
def putAll (l : List Hist) : List (BA × List Ver) := l.foldl (fun m h => putM h.key h.vers m) []
def pendGo (hm : List (BA × List Ver)) : List (Txn × Pend) → List Pend → Int
  | _, [] => 0
  | pm, p :: r => if p.err ≠ 0 then p.err else if (getM p.txn pm).isSome then 9 else if pm.any (fun q => p.clash q.2) then 18 else if oldFor hm p then 20
    else pendGo hm (putM p.txn p pm) r
def loadErr (hl : List Hist) (pl : List Pend) : Int := if histsFrom ⟨#[]⟩ hl then pendGo (putAll hl) [] pl else 4
theorem StoreIs.grow {w : World} {X A A' : XS} {sb kb pb : Nat} {hm : List (BA × List Ver)} {pm : List (Txn × Pend)} {low : Stamp} (h : StoreIs w X A sb kb pb hm pm low)
    (hA : ∀ k, A k → A' k) (hs : ∀ k, A' k → X k ∧ k ≠ sb ∧ k ≠ kb ∧ k ≠ pb) : StoreIs w X A' sb kb pb hm pm low :=
  ⟨h.box, h.keys.mv rdVers.mv (Mv.refl _ _) (Mv.sub hA), h.pend.mv rdPend.mv (Mv.refl _ _) (Mv.sub hA), fun k hk => (hs k hk).1, fun k hk => (hs k hk).2⟩
theorem StoreIs.to {w w' : World} {X Y : XS} {sb kb pb : Nat} {hm : List (BA × List Ver)} {pm : List (Txn × Pend)} {low : Stamp} (h : StoreIs w X (mns X sb kb pb) sb kb pb hm pm low)
    (hs : Since X w Y w') (hX : ∀ k, X k → k < w.heap.size) : StoreIs w' Y (mns Y sb kb pb) sb kb pb hm pm low :=
  (h.mv hX (Since.mv hs)).grow (fun k hk => ⟨hs.sub k hk.1, hk.2⟩) fun k hk => hk
def PSmall (l : List Pend) : Prop := ∀ p ∈ l, p.reads.length ≤ 2 ^ 40 ∧ p.writes.length ≤ 2 ^ 40
def HSmall (l : List Hist) : Prop := ∀ h ∈ l, h.vers.length ≤ 2 ^ 40
theorem d_mvcc_Load {w : World} {X : XS} {vh vp : Value} {hl : List Hist} {pl : List Pend} (h1 : Hists w X vh hl) (h2 : Pends w X vp pl) (hb1 : HSmall hl) (hb2 : PSmall pl) :
    Ct Tryz.prog 246 #[vh, vp] w X nX fun v _ _ => ∃ u : Value, v = .tuple #[u, I (loadErr hl pl)] := by
  intro w0 hk
  replace h1 := h1.mv hk.mvo
  replace h2 := h2.mv hk.mvo
  have hl1 := h1.len
  have hl2 := h2.len
  apply ok_mvcc_Load; unfold vc_mvcc_Load
  have hs := Since.init w0
  refine r_ct0 d_mvcc_New (by kernel_rfl) hs.has ?_
  rintro v wa w X ⟨sb, kb, pb, rfl, hst, ne1, ne2, ne3⟩ hle hin hs1
  have hsb : w0.heap.size ≤ sb := Nat.le_trans hle hst.box.1.1
  have hkb : w0.heap.size ≤ kb := Nat.le_trans hle hst.keys.x.1.1
  have hpb : w0.heap.size ≤ pb := Nat.le_trans hle hst.pend.x.1.1
  replace hs := hs.trans hs1
  have hst1 : StoreIs w X (mns X sb kb pb) sb kb pb [] [] .zero := (hst.mv (fun k hk => hk.2) (Mv.sub hin)).grow (fun k hk => ⟨hin k hk.1, hk.2⟩) fun k hk => hk
  clear hst
  repeat' first | ((with_reducible apply m_lnR); (· assumption); (· kernel_rfl))
  refine lp2_of (fun n a b w X => ∃ (i : Nat) (s : BA), a = I i ∧ b = .string s ∧ n = hl.length - i ∧ i ≤ hl.length ∧ Since (old w0) w0 X w ∧
    StoreIs w X (mns X sb kb pb) sb kb pb (putAll (hl.take i)) [] .zero ∧ histsFrom ⟨#[]⟩ hl = histsFrom s (hl.drop i)) hl.length
    ⟨0, ⟨#[]⟩, rfl, rfl, rfl, Nat.zero_le _, hs, hst1, by rw [List.drop_zero]⟩ ?_
  rintro n a b w X ⟨i, s, rfl, rfl, rfl, hi, hs0, hst, hw⟩
  have hs := Since.refl' hs0.has
  rcases at_or (hl) i with ⟨hlt, x, hx, hd⟩ | ⟨hge, hd⟩
  · rw [hd, histsFrom] at hw
    have hxs := hb1 x (List.mem_of_getElem? hx)
    have hbx := hst.box
    repeat' first | ((with_reducible refine r_lssT ?_ ?_); (· omega)) | with_reducible (first | apply condW_T | apply condW_F) | ((with_reducible apply un_cell); (· rfl)) | ((with_reducible apply m_sub); (· exact qN)) | with_reducible (first | apply un_box | apply r_notT | apply r_notF | apply r_nil) | ((with_reducible apply m_fld1); (· exact qF); (· kernel_rfl); (· rfl); intro _ _ _) | ((with_reducible apply m_ld1); (· exact qF); (· exact qM); (· kernel_rfl); (· rfl)) | ((with_reducible apply m_ldA); (· exact qF); (· exact qM); (· kernel_rfl); (· rfl)) | ((with_reducible apply m_ixH); (· assumption); (try (case hz => rfl)); (case hr => exact qR); (try (case hz => omega)); (case ht => kernel_rfl); (case hs => kernel_rfl); intros) | ((with_reducible apply m_chkc); (case h => exact qE)) | ((with_reducible apply chk_T); (· exact qC)) | (refine r_ct0B (d_mvcc_history (h := x) (ahead := s) (by first | assumption | exact Sl.mv (by assumption) (Since.mv (hs0.trans hs)))) (by kernel_rfl) hs.has ?_ ?_ <;> (intro _ w X hs1; replace hs := hs.trans hs1)) | (first | (with_reducible refine fin_ret0 (hs0.trans hs) ?_); intro wa hk; exact ⟨_, by rw [loadErr, hw]; simp [*]; rfl⟩)
    have hvv := ‹Sl w0 (old w0) 6 _ (x.vers.map Ver.l)›
    have hok := ‹x.ok s = true›
    refine r_ct0 (d_clone_versions (hvv.mv (Since.mv (hs0.trans hs))) hxs) (by kernel_rfl) hs.has ?_
    rintro v1 wa w2 X2 ho1 hle1 hin1 hs2
    have hsz1 := hs.kp.size
    have hst2 := hst.to (hs.trans hs2) hs0.has
    have hv1 : Sl w2 (mns X2 sb kb pb) 6 v1 (x.vers.map Ver.l) := ho1.sl.mv (Mv.sub fun k hk => ⟨hin1 k hk, by
      have q1 := hs0.has sb hst.box.1
      have q2 := hs0.has kb hst.keys.x.1
      have q3 := hs0.has pb hst.pend.x.1
      have := hk.1
      refine ⟨?_, ?_, ?_⟩ <;> omega⟩)
    replace hs := hs.trans hs2
    repeat' first | ((with_reducible apply un_cell); (· rfl))
    refine m_mapPut (kv := fun s : BA => Value.string s) (k := x.key) (et := 286) hst2.keys rdVers.mv hv1 (fun k hk => ⟨hk.1, hk.2.2.1⟩) key_text (by kernel_rfl) hs.has fun w3 X3 hc hm3 => ?_
    have hs3 := (hs0.trans hs).chg hc fun k hk e => by have : k < w0.heap.size := hk; omega
    have hst3 : StoreIs w3 X3 (mns X3 sb kb pb) sb kb pb (putAll (hl.take (i + 1))) [] .zero := by
      have hbx := hst2.box
      have hpm := hst2.pend
      have e : putAll (hl.take (i + 1)) = putM x.key x.vers (putAll (hl.take i)) := by
        rw [List.take_add_one, hx]; simp [putAll]
      rw [e]
      have mo : ∀ b, X2 b → b ≠ kb → Mv (fun k => k = b) w2 X3 w3 := fun b hb hne k hk' _ => by subst hk'; exact ⟨hc.sub _ hb, hc.block _ hb hne⟩
      exact ⟨hbx.own.mv (mo _ hbx.1 ne1), hm3.mv rdVers.mv (Mv.refl _ _) (Mv.sub fun k hk => ⟨hc.sub k hk.1, hk.2⟩),
        hpm.own.mv rdPend.mv (mo _ hpm.x.1 ne3.symm) (fun k hk _ => ⟨⟨hc.sub k hk.1, hk.2⟩, hc.block k hk.1 hk.2.2.1⟩), fun k hk => hk.1, fun k hk => hk.2⟩
    replace hs := hs3
    repeat' first | ((with_reducible apply chk_T); (· exact qC)) | ((with_reducible apply r_add); (· omega); (· omega)) | ((with_reducible refine nx2_of ((hl).length - (i + 1)) ?_ ?_); (· omega); exact ⟨i + 1, x.key, by simp, rfl, rfl, by omega, hs, hst3, by rw [hw, hok]; rfl⟩)
  · have hlen : hl.take i = hl := List.take_of_length_le hge
    rw [hd] at hw
    rw [hlen] at hst
    repeat' first | ((with_reducible refine r_lssF ?_ ?_); (· omega)) | with_reducible apply condW_F | ((with_reducible apply m_lnR); (· assumption); (· kernel_rfl))
    refine lp1_of (fun n a w X => ∃ (i : Nat) (pm : List (Txn × Pend)), a = I i ∧ n = pl.length - i ∧ i ≤ pl.length ∧ Since (old w0) w0 X w ∧
      StoreIs w X (mns X sb kb pb) sb kb pb (putAll hl) pm .zero ∧ loadErr hl pl = pendGo (putAll hl) pm (pl.drop i)) pl.length
      ⟨0, [], rfl, rfl, Nat.zero_le _, hs0, hst, by rw [List.drop_zero, loadErr, hw]; rfl⟩ ?_
    rintro n a w X ⟨j, pm, rfl, rfl, hj, hs0, hst, hw2⟩
    have hs := Since.refl' hs0.has
    rcases at_or pl j with ⟨hlt2, x, hx, hd2⟩ | ⟨hge2, hd2⟩
    · rw [hd2, pendGo] at hw2
      have hxs := hb2 x (List.mem_of_getElem? hx)
      have hbx := hst.box
      repeat' first | ((with_reducible refine r_lssT ?_ ?_); (· omega)) | with_reducible apply condW_T | ((with_reducible apply m_sub); (· exact qN)) | with_reducible (first | apply un_box | apply r_nil) | ((with_reducible apply m_fld1); (· exact qF); (· kernel_rfl); (· rfl); intro _ _ _) | ((with_reducible apply m_ld1); (· exact qF); (· exact qM); (· kernel_rfl); (· rfl)) | ((with_reducible apply m_ldA); (· exact qF); (· exact qM); (· kernel_rfl); (· rfl)) | ((with_reducible apply m_ixP); (· assumption); (try (case hz => rfl)); (case hr => exact qR); (try (case hz => omega)); (case ht => kernel_rfl); (case hs => kernel_rfl); intros) | ((with_reducible apply m_chkc); (case h => exact qE)) | ((with_reducible apply chk_T); (· exact qC)) | (refine r_ct0V (d_mvcc_PendingMay (p := x) (by first | assumption | exact Sl.mv (by assumption) (Since.mv (hs0.trans hs))) (by first | assumption | exact Sl.mv (by assumption) (Since.mv (hs0.trans hs))) hxs.2) (by kernel_rfl) hs.has ?_; intro w X hs1; replace hs := hs.trans hs1)
      refine m_mapGet (kv := fun k : Txn => k.v) (k := x.txn) (kt := 33) (et := 229) (.agg #[I 0, I 0, I 0, I 0, I 0, I 0, .slice none 0 0, .slice none 0 0]) (hst.mv hs0.has (Since.mv hs)).pend key_txn (by kernel_rfl) (by kernel_rfl) (fun v q hg hrd => ?_) fun hg => ?_
      · obtain ⟨ur, uw, rfl, q1, q2⟩ := hrd
        have o1 := q1.one
        have o2 := q2.one
        repeat' first | with_reducible (first | apply condW_T | apply condW_F | apply un_box) | (with_reducible apply r_neq <;> intro _) | ((with_reducible apply m_ext); (· rfl)) | ((with_reducible apply m_chkc); (case h => exact qE)) | ((with_reducible apply chk_T); (· exact qC)) | (first | (with_reducible refine fin_ret0 (hs0.trans hs) ?_); intro wa hk; exact ⟨_, by rw [hw2]; simp [*]; rfl⟩)
      · repeat' first | with_reducible (first | apply condW_T | apply condW_F | apply un_box | apply r_nil) | (with_reducible apply r_neq <;> intro _) | ((with_reducible apply m_fld1); (· exact qF); (· kernel_rfl); (· rfl); intro _ _ _) | ((with_reducible apply m_ld1); (· exact qF); (· exact qM); (· kernel_rfl); (· rfl)) | ((with_reducible apply m_ext); (· rfl)) | ((with_reducible apply m_chkc); (case h => exact qE)) | ((with_reducible apply chk_T); (· exact qC)) | (first | (with_reducible refine fin_ret0 (hs0.trans hs) ?_); intro wa hk; exact ⟨_, by rw [hw2]; simp [*]; rfl⟩) | (refine r_ct0B (d_mvcc_locked (x := x) (hst.mv hs0.has (Since.mv hs)) hs.has (by first | assumption | exact Sl.mv (by assumption) (Since.mv (hs0.trans hs))) (by first | assumption | exact Sl.mv (by assumption) (Since.mv (hs0.trans hs)))) (by kernel_rfl) hs.has ?_ ?_ <;> (intro _ w X hs1; replace hs := hs.trans hs1)) | (refine r_ct0B (d_mvcc_old (x := x) (hst.mv hs0.has (Since.mv hs)) hs.has (by first | assumption | exact Sl.mv (by assumption) (Since.mv (hs0.trans hs)))) (by kernel_rfl) hs.has ?_ ?_ <;> (intro _ w X hs1; replace hs := hs.trans hs1))
        have he : x.err = 0 := ‹x.err = 0›
        have hc18 : (pm.any fun q => x.clash q.snd) = false := ‹_›
        have hc20 : oldFor (putAll hl) x = false := ‹_›
        refine r_ct0 (d_mvcc_clone (p := x) (by first | exact Sl.mv (by assumption) (Since.mv (hs0.trans hs))) (by first | exact Sl.mv (by assumption) (Since.mv (hs0.trans hs))) hxs.1 hxs.2) (by kernel_rfl) hs.has ?_
        rintro v1 wa w2 X2 ⟨ur, uw, rfl, ho1, ho2, -⟩ hle1 hin1 hs2
        have hsz1 := hs.kp.size
        have hst2 := hst.to (hs.trans hs2) hs0.has
        have hup : ∀ k, made wa w2 k → mns X2 sb kb pb k := fun k hk => ⟨hin1 k hk, by
          have q1 := hs0.has sb hst.box.1
          have q2 := hs0.has kb hst.keys.x.1
          have q3 := hs0.has pb hst.pend.x.1
          have := hk.1
          refine ⟨?_, ?_, ?_⟩ <;> omega⟩
        have hv1 : rdPend w2 (mns X2 sb kb pb) (x.v ur uw) x := ⟨ur, uw, rfl, ho1.sl.mv (Mv.sub hup), ho2.sl.mv (Mv.sub hup)⟩
        replace hs := hs.trans hs2
        refine m_mapPut (kv := fun k : Txn => k.v) (k := x.txn) (et := 229) hst2.pend rdPend.mv hv1 (fun k hk => ⟨hk.1, hk.2.2.2⟩) key_txn (by kernel_rfl) hs.has fun w3 X3 hc hm3 => ?_
        have hs3 := (hs0.trans hs).chg hc fun k hk e => by have : k < w0.heap.size := hk; omega
        have hst3 : StoreIs w3 X3 (mns X3 sb kb pb) sb kb pb (putAll hl) (putM x.txn x pm) .zero := by
          have hbx := hst2.box
          have hkm := hst2.keys
          have mo : ∀ b, X2 b → b ≠ pb → Mv (fun k => k = b) w2 X3 w3 := fun b hb hne k hk' _ => by subst hk'; exact ⟨hc.sub _ hb, hc.block _ hb hne⟩
          exact ⟨hbx.own.mv (mo _ hbx.1 ne2), hkm.own.mv rdVers.mv (mo _ hkm.x.1 ne3) (fun k hk _ => ⟨⟨hc.sub k hk.1, hk.2⟩, hc.block k hk.1 hk.2.2.2⟩),
            hm3.mv rdPend.mv (Mv.refl _ _) (Mv.sub fun k hk => ⟨hc.sub k hk.1, hk.2⟩), fun k hk => hk.1, fun k hk => hk.2⟩
        replace hs := hs3
        repeat' first | ((with_reducible apply r_add); (· omega); (· omega)) | ((with_reducible refine nx1_of (pl.length - (j + 1)) ?_ ?_); (· omega); exact ⟨j + 1, _, by simp, rfl, by omega, hs, hst3, by rw [hw2]; simp [he, hg, hc18, hc20]⟩)
    · rw [hd2] at hw2
      repeat' first | ((with_reducible refine r_lssF ?_ ?_); (· omega)) | with_reducible apply condW_F | (first | (with_reducible refine fin_ret0 (hs0.trans hs) ?_); intro wa hk; exact ⟨_, by rw [hw2]; rfl⟩)
end Go.Proofs.YtpdkoaklobnegaaGreat
namespace Go.Proofs.YtpdkoaklobnegaaGreat
open Go.Eng
set_option maxRecDepth 100000
set_option maxHeartbeats 1000000
set_option linter.unusedVariables false
set_option linter.unusedSimpArgs false
attribute [local irreducible] un jn chk fld ld1 ldA st1 ixS lnS lnT bld cvI cvF ixA bsS apS rdV rdW grdW eW eV eU eC eF gE condW fin pickN nilN binS vS lp0 lp1 lp2 lp3 lp4 lp5 lp6 lp7 nx0 nx1 nx2 nx3 nx4 nx5 nx6 nx7
def HKeys (l : List Hist) : Prop := ∀ h ∈ l, h.key.size ≤ 2 ^ 40
def PKeys (l : List Pend) : Prop := ∀ p ∈ l, (∀ k ∈ p.reads, k.size ≤ 2 ^ 40) ∧ ∀ x ∈ p.writes, x.key.size ≤ 2 ^ 40
structure State.small (s : State) : Prop where
  h : HSmall s.hists
  p : PSmall s.pend
  hk : HKeys s.hists
  pk : PKeys s.pend
structure Rec.small (r : Rec) : Prop where
  reads : r.reads.length ≤ 2 ^ 40
  writes : r.writes.length ≤ 2 ^ 40
  rk : ∀ k ∈ r.reads, k.size ≤ 2 ^ 40
  wk : ∀ x ∈ r.writes, x.key.size ≤ 2 ^ 40
  state : r.state.small
def Rng.has (r : Rng) (x : Nat) : Bool := (fgt x r.lo || feq x r.lo) && flt x r.hi
def Rng.key (r : Rng) (k : BA) : Bool := r.has (placeOf k)
def State.inside (s : State) : Bool := s.hists.all (fun h => s.range.key h.key) && s.pend.all fun p => p.reads.all s.range.key && p.writes.all fun x => s.range.key x.key
def State.may (s : State) : Bool := s.range.may && s.floor.may && s.closed.may && decide (loadErr s.hists s.pend = 0) && s.inside
theorem d_recs_StateMay_c1 {w : World} {X : XS} {s : State} {vh vp : Value} {k : BA} {b : Nat} (h : Cells w X b 0 (s.l vh vp)) (hk' : k.size ≤ 2 ^ 62) :
    Ct Tryz.prog 247 #[.string k, ptr b 0] w X nX fun v _ _ => v = B (s.range.key k) := by
  intro w0 hk
  replace h := h.mv hk.mvo
  apply ok_recs_StateMay_c1; unfold vc_recs_StateMay_c1
  have hs := Since.init w0
  repeat' first | ((with_reducible apply m_fld); (· exact qF); (· kernel_rfl); (· rfl); (· exact qN); intro _ _ _) | ((with_reducible apply m_ldA); (· exact qF); (· exact qM); (· kernel_rfl); (· rfl)) | ((with_reducible refine r_pureB (c_place_In _ _) ?_ hs.has ?_ ?_); (· kernel_rfl); all_goals (intro _ w X hs1; replace hs := hs.trans hs1)) | ((with_reducible refine r_pure (c_place_Of _ (by first | assumption | omega)) ?_ hs.has ?_); (· kernel_rfl); intro w X hs1; replace hs := hs.trans hs1) | ((first | (with_reducible refine fin_ret0 hs ?_) | (with_reducible refine fin_ret0 (hs0.trans hs) ?_)); intro wa hk; (simp [Rng.key, Rng.has, *]))
theorem d_recs_StateMay {w : World} {X : XS} {s : State} {vh vp : Value} (h1 : Hists w X vh s.hists) (h2 : Pends w X vp s.pend) (hsm : s.small) :
    Ct Tryz.prog 167 #[s.v vh vp] w X nX fun v _ _ => v = B s.may := by
  intro w0 hk
  replace h1 := h1.mv hk.mvo
  replace h2 := h2.mv hk.mvo
  have hl1 := h1.len
  have hl2 := h2.len
  have o1 := h1.one
  have o2 := h2.one
  apply ok_recs_StateMay; unfold vc_recs_StateMay
  have hs := Since.init w0
  repeat' first | with_reducible (first | apply condW_T | apply condW_F | apply grdV_onF | apply grdW_offF | apply rdW_pickT | apply rdW_pickF | apply gE_F | apply gE_TF | apply r_notT | apply r_notF) | (with_reducible apply r_neq <;> intro _) | ((with_reducible apply m_fld1); (· exact qF); (· kernel_rfl); (· rfl); intro _ _ _) | ((with_reducible apply m_fld); (· exact qF); (· kernel_rfl); (· rfl); (· exact qN); intro _ _ _) | ((with_reducible apply m_ld1); (· exact qF); (· exact qM); (· kernel_rfl); (· rfl)) | ((with_reducible apply m_ldA); (· exact qF); (· exact qM); (· kernel_rfl); (· rfl)) | ((with_reducible apply m_lnR); (· assumption); (· kernel_rfl)) | ((with_reducible apply m_ext); (· rfl)) | ((with_reducible apply m_boxA); (case hX => exact hs.has); intro bx w X hbx hs1 hrow; have hs0 := hs.trans hs1; replace hs := Since.refl' hs1.has) | (with_reducible apply m_mkFun) | with_reducible apply jn_of | ((with_reducible refine r_pureB (c_hlc_May _) ?_ hs.has ?_ ?_); (· kernel_rfl); all_goals (intro _ w X hs1; replace hs := hs.trans hs1)) | ((with_reducible refine r_pureB (c_place_May _) ?_ hs.has ?_ ?_); (· kernel_rfl); all_goals (intro _ w X hs1; replace hs := hs.trans hs1)) | ((first | (with_reducible refine fin_ret0 hs ?_) | (with_reducible refine fin_ret0 (hs0.trans hs) ?_)); intro wa hk; (simp [State.may, *])) | (refine r_ct0 ((d_mvcc_Load (hl := s.hists) (pl := s.pend))  qA qA hsm.h hsm.p) (by kernel_rfl) hs.has ?_; rintro _ wa w X ⟨u, rfl⟩ hle hin hs1; have hlo := Nat.le_trans hs.kp.size hle; replace hs := hs.trans hs1)
  have hc1 : ∀ k : BA, k.size ≤ 2 ^ 40 → ∀ w X, Since _ _ X w → Ct Tryz.prog 247 #[.string k, ptr bx 0] w X nX fun v _ _ => v = B (s.range.key k) := fun k hk w X hs => d_recs_StateMay_c1 (hrow.since hs).cells (by omega)
  have hin0 : s.may = s.inside := by simp [State.may, *]
  refine lp1_of (fun n a w X => ∃ i : Nat, a = I (i : Nat) ∧ n = s.hists.length - i ∧ i ≤ s.hists.length ∧ Since _ _ X w ∧
    (s.hists.all (fun h => s.range.key h.key)) = ((s.hists.drop i).all fun h => s.range.key h.key)) s.hists.length ⟨0, rfl, rfl, Nat.zero_le _, hs, by simp⟩ ?_
  rintro n a w X ⟨i, rfl, rfl, hi, hs, hw⟩
  rcases at_or (s.hists) i with ⟨hlt, x, hx, hd⟩ | ⟨hge, hd⟩
  · rw [hd, List.all_cons] at hw
    have hkx := hsm.hk x (List.mem_of_getElem? hx)
    repeat' first | ((with_reducible refine r_lssT ?_ ?_); (· omega)) | with_reducible (first | apply condW_T | apply condW_F) | ((with_reducible apply un_cell); (· rfl)) | with_reducible (first | apply un_box | apply r_notT | apply r_notF) | ((with_reducible apply m_ldA); (· exact qF); (· exact qM); (· kernel_rfl); (· rfl)) | ((with_reducible apply m_ixH); (· assumption); (try (case hz => rfl)); (case hr => exact qR); (try (case hz => omega)); (case ht => kernel_rfl); (case hs => kernel_rfl); intros) | ((with_reducible apply m_chkc); (case h => exact qE)) | ((with_reducible apply chk_T); (· exact qC)) | ((with_reducible apply r_add); (· omega); (· omega)) | ((with_reducible apply m_fun); (· rfl)) | ((first | (with_reducible refine fin_ret0 hs ?_) | (with_reducible refine fin_ret0 (hs0.trans hs) ?_)); intro wa hk; (simp [hin0, State.inside, hw, *])) | (refine r_ct0B (hc1 x.key hkx _ _ hs) (by kernel_rfl) hs.has ?_ ?_ <;> (intro _ w X hs1; replace hs := hs.trans hs1)) | ((with_reducible refine nx1_of ((s.hists).length - (i + 1)) ?_ ?_); (· omega); exact ⟨i + 1, by simp, rfl, by omega, hs, by rw [hw]; simp [*]⟩)
  · rw [hd] at hw
    repeat' first | ((with_reducible refine r_lssF ?_ ?_); (· omega)) | with_reducible apply condW_F | ((with_reducible apply m_fld1); (· exact qF); (· kernel_rfl); (· rfl); intro _ _ _) | ((with_reducible apply m_ld1); (· exact qF); (· exact qM); (· kernel_rfl); (· rfl)) | ((with_reducible apply m_lnR); (· assumption); (· kernel_rfl))
    refine lp3_of (fun n a _ _ w X => ∃ i : Nat, a = I (i : Nat) ∧ n = s.pend.length - i ∧ i ≤ s.pend.length ∧ Since _ _ X w ∧
      (s.pend.all fun p => p.reads.all s.range.key && p.writes.all fun x => s.range.key x.key) = ((s.pend.drop i).all fun p => p.reads.all s.range.key && p.writes.all fun x => s.range.key x.key)) s.pend.length ⟨0, rfl, rfl, Nat.zero_le _, hs, by simp⟩ ?_
    rintro n a a2 a3 w X ⟨j, rfl, rfl, hj, hs, hw2⟩
    rcases at_or s.pend j with ⟨hlt, p, hp, hd2⟩ | ⟨hge2, hd2⟩
    · rw [hd2, List.all_cons] at hw2
      obtain ⟨hr1, hr2⟩ := hsm.pk p (List.mem_of_getElem? hp)
      repeat' first | ((with_reducible refine r_lssT ?_ ?_); (· omega)) | with_reducible apply condW_T | ((with_reducible apply un_cell); (· rfl)) | with_reducible apply un_box | ((with_reducible apply m_ldA); (· exact qF); (· exact qM); (· kernel_rfl); (· rfl)) | ((with_reducible apply m_lnS); (· exact qO); (· kernel_rfl)) | ((with_reducible apply m_ixP); (· assumption); (try (case hz => rfl)); (case hr => exact qR); (try (case hz => omega)); (case ht => kernel_rfl); (case hs => kernel_rfl); intros) | ((with_reducible apply m_chkc); (case h => exact qE)) | ((with_reducible apply chk_T); (· exact qC))
      have hl3 := Sl.len' ‹Sl w0 (old w0) 1 _ (p.reads.map S1)›
      have hl4 := Sl.len' ‹Sl w0 (old w0) 4 _ (p.writes.map KV.l)›
      refine lp1_of (fun n a w X => ∃ i : Nat, a = I (i : Nat) ∧ n = p.reads.length - i ∧ i ≤ p.reads.length ∧ Since _ _ X w ∧ p.reads.all s.range.key = (p.reads.drop i).all s.range.key) p.reads.length ⟨0, rfl, rfl, Nat.zero_le _, hs, by simp⟩ ?_
      rintro n a w X ⟨k, rfl, rfl, hk3, hs, hw3⟩
      rcases at_or p.reads k with ⟨hlt3, y, hy, hd3⟩ | ⟨hge3, hd3⟩
      · rw [hd3, List.all_cons] at hw3
        have hky := hr1 y (List.mem_of_getElem? hy)
        repeat' first | ((with_reducible refine r_lssT ?_ ?_); (· omega)) | with_reducible (first | apply condW_T | apply condW_F | apply r_notT | apply r_notF) | ((with_reducible apply m_ld1); (· exact qF); (· exact qM); (· kernel_rfl); (· rfl)) | ((with_reducible apply m_ixS); (· exact qO); (try (case hz => rfl)); (case hr => exact qR); (try (case hz => omega)); (case ht => kernel_rfl); (case hs => kernel_rfl); intro _ _ _) | ((with_reducible apply r_add); (· omega); (· omega)) | ((with_reducible apply m_fun); (· rfl)) | ((first | (with_reducible refine fin_ret0 hs ?_) | (with_reducible refine fin_ret0 (hs0.trans hs) ?_)); intro wa hk; (simp [hin0, State.inside, hw2, hw3, *])) | (refine r_ct0B (hc1 y hky _ _ hs) (by kernel_rfl) hs.has ?_ ?_ <;> (intro _ w X hs1; replace hs := hs.trans hs1)) | ((with_reducible refine nx1_of (p.reads.length - (k + 1)) ?_ ?_); (· omega); exact ⟨k + 1, by simp, rfl, by omega, hs, by rw [hw3]; simp [*]⟩)
      · rw [hd3] at hw3
        repeat' first | ((with_reducible refine r_lssF ?_ ?_); (· omega)) | with_reducible apply condW_F | ((with_reducible apply un_cell); (· rfl)) | ((with_reducible apply m_lnS); (· exact qO); (· kernel_rfl)) | ((with_reducible apply chk_T); (· exact qC))
        refine lp1_of (fun n a w X => ∃ i : Nat, a = I (i : Nat) ∧ n = p.writes.length - i ∧ i ≤ p.writes.length ∧ Since _ _ X w ∧ (p.writes.all fun x => s.range.key x.key) = (p.writes.drop i).all fun x => s.range.key x.key) p.writes.length ⟨0, rfl, rfl, Nat.zero_le _, hs, by simp⟩ ?_
        rintro n a w X ⟨m, rfl, rfl, hm, hs, hw4⟩
        rcases at_or p.writes m with ⟨hlt4, y, hy, hd4⟩ | ⟨hge4, hd4⟩
        · rw [hd4, List.all_cons] at hw4
          have hky := hr2 y (List.mem_of_getElem? hy)
          repeat' first | ((with_reducible refine r_lssT ?_ ?_); (· omega)) | with_reducible (first | apply condW_T | apply condW_F) | ((with_reducible apply un_cell); (· rfl)) | with_reducible (first | apply un_box | apply r_notT | apply r_notF) | ((with_reducible apply m_ldA); (· exact qF); (· exact qM); (· kernel_rfl); (· rfl)) | ((with_reducible apply m_ixS); (· exact qO); (try (case hz => rfl)); (case hr => exact qR); (try (case hz => omega)); (case ht => kernel_rfl); (case hs => kernel_rfl); intro _ _ _) | ((with_reducible apply m_chkc); (case h => exact qE)) | ((with_reducible apply chk_T); (· exact qC)) | ((with_reducible apply r_add); (· omega); (· omega)) | ((with_reducible apply m_fun); (· rfl)) | ((first | (with_reducible refine fin_ret0 hs ?_) | (with_reducible refine fin_ret0 (hs0.trans hs) ?_)); intro wa hk; (simp [hin0, State.inside, hw2, hw3, hw4, *])) | (refine r_ct0B (hc1 y.key hky _ _ hs) (by kernel_rfl) hs.has ?_ ?_ <;> (intro _ w X hs1; replace hs := hs.trans hs1)) | ((with_reducible refine nx1_of (p.writes.length - (m + 1)) ?_ ?_); (· omega); exact ⟨m + 1, by simp, rfl, by omega, hs, by rw [hw4]; simp [*]⟩)
        · rw [hd4] at hw4
          repeat' first | ((with_reducible refine r_lssF ?_ ?_); (· omega)) | with_reducible apply condW_F | ((with_reducible apply r_add); (· omega); (· omega)) | ((with_reducible refine nx3_of (s.pend.length - (j + 1)) ?_ ?_); (· omega); exact ⟨j + 1, by simp, rfl, by omega, hs, by rw [hw2, hw3, hw4]; simp⟩)
    · rw [hd2] at hw2
      repeat' first | ((with_reducible refine r_lssF ?_ ?_); (· omega)) | with_reducible apply condW_F | ((first | (with_reducible refine fin_ret0 hs ?_) | (with_reducible refine fin_ret0 (hs0.trans hs) ?_)); intro wa hk; (rw [hin0, State.inside, hw, hw2]; rfl))
def applyOk (prev st : Stamp) (t : Txn) (l : List KV) : Bool := prev.may && decide (prev.cmp st < 0) && decide (l ≠ []) && decide (Pend.err ⟨t, st, [], l⟩ = 0)
theorem d_recs_Apply {w : World} {X : XS} {prev st : Stamp} {t : Txn} {l : List KV} {a : Value} (h : Sl w X 4 a (l.map KV.l)) (hb : l.length ≤ 2 ^ 40) :
    Ct Tryz.prog 168 #[prev.v, st.v, t.v, a] w X nX fun v _ _ => v = B (applyOk prev st t l) := by
  intro w0 hk
  replace h := h.mv hk.mvo
  obtain ⟨b1, n1, c1, rfl⟩ := h.form
  apply ok_recs_Apply; unfold vc_recs_Apply
  have hs := Since.init w0
  repeat' first | with_reducible (first | apply condW_T | apply condW_F | apply un_selF | apply un_selTF | apply grdV_onF | apply grdW_offF | apply rdW_pickT | apply rdW_pickF | apply gE_F | apply gE_TF | apply r_notT | apply r_notF) | (with_reducible apply r_eql <;> intro _) | (with_reducible apply r_geq <;> intro _) | ((with_reducible apply m_lnS); (· exact qO); (· kernel_rfl)) | ((with_reducible apply r_bld); (· kernel_rfl)) | with_reducible apply jn_of | ((with_reducible refine r_pure (c_hlc_Compare _ _) ?_ hs.has ?_); (· kernel_rfl); intro w X hs1; replace hs := hs.trans hs1) | ((with_reducible refine r_pureB (c_hlc_May _) ?_ hs.has ?_ ?_); (· kernel_rfl); all_goals (intro _ w X hs1; replace hs := hs.trans hs1)) | ((first | (with_reducible refine fin_ret0 hs ?_) | (with_reducible refine fin_ret0 (hs0.trans hs) ?_)); intro wa hk; (simp_all [applyOk] <;> omega)) | (refine r_ct0V (d_mvcc_PendingMay  (p := ⟨t,st,[],l⟩) (Sl.nil _ _ _) qA hb) (by kernel_rfl) hs.has ?_; intro w X hs1; replace hs := hs.trans hs1)
def pointOk (x : Nat) : Bool := decide ((toPoint x).2 = 0) && fgt (toPoint x).1 0 && flt (toPoint x).1 one64
def rangeNo (n : Int) : Bool := decide (n ≥ 1) && decide (n ≤ 12)
def Rec.fieldsOk (r : Rec) : Bool :=
  if r.kind = 1 then r.state.may
  else if r.kind = 2 then decide (r.n ≥ 0) && decide (r.n ≤ 281474976710656)
  else if r.kind = 3 then decide (Pend.err ⟨r.txn, r.stamp, r.reads, r.writes⟩ = 0) && partsOk r.parts
  else if r.kind = 4 then r.txn.may && r.stamp.decided r.commit
  else if r.kind = 5 then r.stamp.may
  else if r.kind = 6 then pointOk r.point && rangeNo r.n && r.stamp.may
  else if r.kind = 7 then rangeNo r.n
  else if r.kind = 8 then decide (r.n ≥ 1)
  else if r.kind = 9 then r.txn.may && r.stamp.moment && partsOk r.parts
  else if r.kind = 10 then r.txn.may
  else if r.kind = 11 then applyOk r.prev r.stamp r.txn r.writes
  else r.stamp.may && pairsOk r.pairs
theorem d_recs_fields {w : World} {X : XS} {r : Rec} {vr vw vp vq vh vd : Value} (h : r.at w X vr vw vp vq vh vd) (hsm : r.small) :
    Ct Tryz.prog 224 #[r.v vr vw vp vq vh vd] w X nX fun v _ _ => v = B r.fieldsOk := by
  intro w0 hk
  obtain ⟨h1, h2, h3, h4, h5, h6⟩ := h.mv hk.mvo
  obtain ⟨b1, n1, c1, rfl⟩ := h1.form
  obtain ⟨b2, n2, c2, rfl⟩ := h2.form
  apply ok_recs_fields; unfold vc_recs_fields
  have hs := Since.init w0
  repeat' first | with_reducible (first | apply condW_T | apply condW_F | apply un_selT | apply un_selFT | apply grdV_onT | apply grdW_offT | apply rdW_pickT | apply rdW_pickF | apply gE_T | apply gE_FT) | (with_reducible apply r_eql <;> intro _) | (with_reducible apply r_leq <;> intro _) | (with_reducible apply r_geq <;> intro _) | (with_reducible apply r_flss <;> intro _) | (with_reducible apply r_fgtr <;> intro _) | ((with_reducible apply r_bld); (· kernel_rfl)) | ((with_reducible apply m_ext); (· rfl)) | with_reducible apply jn_of | ((with_reducible refine r_pureB (c_hlc_May _) ?_ hs.has ?_ ?_); (· kernel_rfl); all_goals (intro _ w X hs1; replace hs := hs.trans hs1)) | ((with_reducible refine r_pureB (c_mvcc_TxnMay _) ?_ hs.has ?_ ?_); (· kernel_rfl); all_goals (intro _ w X hs1; replace hs := hs.trans hs1)) | ((with_reducible refine r_pureB (c_recs_decided _ _) ?_ hs.has ?_ ?_); (· kernel_rfl); all_goals (intro _ w X hs1; replace hs := hs.trans hs1)) | ((with_reducible refine r_pure (c_place_Point _) ?_ hs.has ?_); (· kernel_rfl); intro w X hs1; replace hs := hs.trans hs1) | ((with_reducible refine r_pureB (c_recs_ranges _) ?_ hs.has ?_ ?_); (· kernel_rfl); all_goals (intro _ w X hs1; replace hs := hs.trans hs1)) | ((with_reducible refine r_pureB (c_recs_moment _) ?_ hs.has ?_ ?_); (· kernel_rfl); all_goals (intro _ w X hs1; replace hs := hs.trans hs1)) | (refine r_ct0B (d_recs_StateMay  (s := r.state) qA qA hsm.state) (by kernel_rfl) hs.has ?_ ?_ <;> (intro _ w X hs1; replace hs := hs.trans hs1)) | (refine r_ct0V (d_mvcc_PendingMay  (p := ⟨r.txn,r.stamp,r.reads,r.writes⟩) qA qA hsm.writes) (by kernel_rfl) hs.has ?_; intro w X hs1; replace hs := hs.trans hs1) | (refine r_ct0B (d_recs_Parts  qA) (by kernel_rfl) hs.has ?_ ?_ <;> (intro _ w X hs1; replace hs := hs.trans hs1)) | (refine r_ct0B (d_recs_pairs  qA) (by kernel_rfl) hs.has ?_ ?_ <;> (intro _ w X hs1; replace hs := hs.trans hs1)) | (refine r_ct0B ((d_recs_Apply (l := r.writes))  qA hsm.writes) (by kernel_rfl) hs.has ?_ ?_ <;> (intro _ w X hs1; replace hs := hs.trans hs1))
  all_goals
    (with_reducible refine fin_ret0 hs ?_)
    intro wa hk9
    unfold Rec.fieldsOk
    repeat (first | rw [if_pos (by omega)] | rw [if_neg (by omega)])
    simp_all [pointOk, rangeNo, one64] <;> omega
def Rec.err (r : Rec) : Int := if !r.strip.2 then 7 else if !r.strip.1.isZero || !r.fieldsOk then 4 else 0
theorem d_recs_May {w : World} {X : XS} {r : Rec} {vr vw vp vq vh vd : Value} (h : r.at w X vr vw vp vq vh vd) (hsm : r.small) :
    Ct Tryz.prog 155 #[r.v vr vw vp vq vh vd] w X nX fun v _ _ => v = I r.err := by
  intro w0 hk
  have h := h.mv hk.mvo
  apply ok_recs_May; unfold vc_recs_May
  have hs := Since.init w0
  refine r_ct0 (d_recs_without h) (by kernel_rfl) hs.has ?_
  rintro v wa w X ⟨vr', vw', vp', vq', vh', vd', rfl, hat⟩ hle hin hs1
  replace hs := hs.trans hs1
  have q1 := hat.1.one
  have q2 := hat.2.1.one
  have q3 := hat.2.2.1.one
  have q4 := hat.2.2.2.1.one
  have q5 := hat.2.2.2.2.1.one
  have q6 := hat.2.2.2.2.2.one
  cases hb : r.strip.2 <;>
  repeat' first | with_reducible (first | apply condW_T | apply condW_F) | ((with_reducible apply m_sub); (· exact qN)) | with_reducible (first | apply un_box | apply un_selF | apply un_selTF | apply grdV_onF | apply grdW_offF | apply rdW_pickT | apply rdW_pickF | apply gE_F | apply gE_TF | apply r_notT | apply r_notF) | ((with_reducible apply m_ext); (· rfl)) | ((with_reducible apply m_chkc); (case h => exact qE)) | ((with_reducible apply chk_T); (· exact qC)) | with_reducible apply jn_of | ((first | (with_reducible refine fin_ret0 hs ?_) | (with_reducible refine fin_ret0 (hs0.trans hs) ?_)); intro wa hk; (simp [Rec.err, *])) | (refine r_ct0B (d_recs_zero  (r := r.strip.1) qA) (by kernel_rfl) hs.has ?_ ?_ <;> (intro _ w X hs1; replace hs := hs.trans hs1)) | (refine r_ct0B ((d_recs_fields (r := r))  (h.mv (Since.mv hs)) hsm) (by kernel_rfl) hs.has ?_ ?_ <;> (intro _ w X hs1; replace hs := hs.trans hs1))
end Go.Proofs.YtpdkoaklobnegaaGreat
namespace Go.Proofs.YtpdkoaklobnegaaGreat
open Go.Eng
set_option maxRecDepth 100000
set_option maxHeartbeats 1000000
set_option linter.unusedVariables false
set_option linter.unusedSimpArgs false
attribute [local irreducible] un jn chk fld ld1 ldA st1 ixS lnS lnT bld cvI cvF ixA bsS apS rdV rdW grdW eW eV eU eC eF gE condW fin pickN nilN binS vS lp0 lp1 lp2 lp3 lp4 lp5 lp6 lp7 nx0 nx1 nx2 nx3 nx4 nx5 nx6 nx7
abbrev U1 (b : Nat) : List Value := [.int .u8 b]
def encU (u : Nat) : List Nat := if u < 128 then [u] else (u % 128 + 128) :: encU (u / 128)
termination_by u
decreasing_by omega
def zig (n : Int) : Nat := if n < 0 then 18446744073709551615 - ((n % 18446744073709551616).toNat * 2 % 18446744073709551616) else (n % 18446744073709551616).toNat * 2 % 18446744073709551616
def encI (n : Int) : List Nat := encU (zig n)
theorem encU_len : ∀ (k u : Nat), u < 128 ^ k → (encU u).length ≤ max k 1
  | 0, u, h => by
    have : u = 0 := by simpa using h
    subst this; unfold encU; simp
  | k + 1, u, h => by
    unfold encU
    split
    · simp only [List.length_cons, List.length_nil]; omega
    · have hk : 1 ≤ k := by
        rcases k with _ | k
        · simp at h; omega
        · exact Nat.le_add_left _ _
      have h1 : u / 128 < 128 ^ k := by
        rw [Nat.div_lt_iff_lt_mul (by decide), ← Nat.pow_succ]; exact h
      have := encU_len k (u / 128) h1
      simp only [List.length_cons]
      omega
theorem zig_lt (n : Int) : zig n < 18446744073709551616 := by
  unfold zig; split <;> omega
theorem encI_len (n : Int) : (encI n).length ≤ 10 := by
  have := encU_len 10 (zig n) (Nat.lt_of_lt_of_le (zig_lt n) (by decide))
  unfold encI
  omega
def encT (s : BA) : List Nat := encI s.size ++ s.data.toList.map UInt8.toNat
def byteAt (u k : Nat) : Nat := u / 256 ^ k % 256
def encF (x : Nat) : List Nat := (List.range 8).map (byteAt (canon x))
def encV (v : Val) : List Nat :=
  let v := if v.may then v else Val.zero
  encI v.kind ++ (if v.kind = 1 then encF v.num else if v.kind = 2 then encT v.text else [])
def encB (b : Bool) : List Nat := [if b then 1 else 0]
def encSt (s : Stamp) : List Nat := encI s.wall ++ encI s.logic ++ encI s.node
def encTx (t : Txn) : List Nat := encI t.coord ++ encI t.life ++ encI t.sq
def encKV (x : KV) : List Nat := encT x.key ++ encV x.val
def encL {α : Type} (f : α → List Nat) (l : List α) : List Nat := encI l.length ++ (l.map f).flatten
end Go.Proofs.YtpdkoaklobnegaaGreat
