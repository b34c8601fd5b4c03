/-
 Part 10 of the proof: what the last text leans on.
-/
import Derived.WalkKit
import Derived.Test.YteomdhcbhmaiaaaGreatW9
open Bool renaming not_eq_true → nD
set_option linter.unusedVariables false
set_option linter.unusedSimpArgs false
namespace Go.Proofs.YteomdhcbhmaiaaaGreat
open Go.Proofs.Tryz renaming prog → pg
open Go.aX Go.RowKit Go.Sort
set_option maxRecDepth 100000
set_option maxHeartbeats 1000000
theorem Ri (a b:dB) (W:World):Calls pg 104 #[a.v,b.v] W fun e w'=>e= .returned (.bool (a.less b))∧UE W w':=by
 go_enter Tryz.func104,Tryz.ntmps104
 go_wp2
 all_goals go_ret
 all_goals refine⟨?_,_,by rw [alloc_eq_grow,alloc_eq_grow,grow_grow]⟩
 all_goals simp_all [dB.less]
abbrev WC (a:dB) (s:bH) (vr vw:Value):Value:=.agg #[I a.gO,I a.jO,I a.sq,I s.wall,I s.cZ,I s.node,vr,vw]
theorem Py (a b:dB) (s s':bH) (b1 b2 b3 b4:Option Addr) (n1 n2 n3 n4 c1 c2 c3 c4:Nat) (W:World):Calls pg 103 #[WC a s (.slice b1 n1 c1) (.slice b2 n2 c2),WC b s' (.slice b3 n3 c3) (.slice b4 n4 c4)] W
  fun e w'=>e= .returned (I (if a.less b then-1 else 1))∧UE W w':=by
 have UF:=Ri a b;change∀W',Calls pg 104 #[.agg #[I a.gO,I a.jO,I a.sq],.agg #[I b.gO,I b.jO,I b.sq]] W' _ at UF;generalize a.less b=r at UF⊢
 go_enter Tryz.func103,Tryz.ntmps103
 go_wp2_with (go_at_call 104;refine(UF _).mono ?_;rintro e w' ⟨rfl,os,rfl⟩)
 all_goals go_ret
 all_goals refine⟨?_,_,by rw [alloc_eq_grow,alloc_eq_grow,grow_grow,grow_grow]⟩
 all_goals simp_all
theorem dB.Ao {a b:dB} :a.less b=true↔a.gO<b.gO∨a.gO=b.gO∧(a.jO<b.jO∨a.jO=b.jO∧a.sq<b.sq):=by
 unfold dB.less;split
 ·simp;omega
 ·split
  ·simp;omega
  ·simp;omega
theorem dB.uU (a:dB):a.less a=false:=by
 rw [←nD,dB.Ao];omega
theorem dB.Ap {a b c:dB} (h1:a.less b=true) (h2:b.less c=true):a.less c=true:=by
 rw [dB.Ao] at*;omega
theorem dB.Pz {a b c:dB} (h1:a.less b=false) (h2:b.less c=false):a.less c=false:=by
 rw [←nD,dB.Ao] at*;omega
theorem dB.Rj {a b:dB} (h1:a.less b=false) (h2:b.less a=false):a=b:=by
 rw [←nD,dB.Ao] at*;cases a;cases b;simp only [dB.mk.injEq] at*;omega
end Go.Proofs.YteomdhcbhmaiaaaGreat
