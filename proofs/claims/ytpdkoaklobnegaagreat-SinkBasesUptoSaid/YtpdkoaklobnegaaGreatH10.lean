/-
 racelaw22.SinkBases returns true, whatever it is called with, where what it reads is of bulk at most 1048576; the input reads as it did.
-/
import Derived.Test.YtpdkoaklobnegaaGreatH9
open List renaming append_nil → cp
set_option linter.unusedVariables false
set_option linter.unusedSimpArgs false
namespace Go.Proofs.YtpdkoaklobnegaaGreat
open Go.Proofs.Tryz renaming prog → pg
open Go.fR Go.ChangeShapes Go.WideShapes Go.ChangeAt Go.RowKit
set_option maxRecDepth 100000
set_option maxHeartbeats 1000000
namespace sinkBases
theorem abT (H:Type) (enc:TypeId×Value→H) (W:World) (base:Nat) (args:Array Value) (ds gs:List (DataW H)) (before:List MemPlace)
  (Mi: ∀(j:Nat) t v,Tryz.f5.params[j]? =some t→args[j]? =some v→Value.okWide pg W .any base t v)
  (hW:DataW.Whole enc pg Tryz.f5.params.toList Rows.sinkBasesSpec.vars false W args.toList ds gs before) (hk:Rows.uptoSmall H (ds++gs)=true):
  Calls pg 5 args W fun e W'=> ∃v,e= .returned v∧Rows.sinkBasesSpec.post enc pg Tryz.f5 false true false false W args v W':=by
 have hW':=hW
 obtain⟨p,q,hA0,hV,rfl,hfz,py⟩:=hW
 have hA:DataW.TrodAll enc pg W 0 (fun _=>true) true Tryz.f5.params.toList args.toList ds p:=hA0
 rw [Tryz.params5] at hA Mi
 obtain⟨v0,vs0,d0,ds0,p0,q0,adt,rfl,rfl,h0,r0⟩:=trodAll_cons hA
 obtain⟨v1,vs1,d1,ds1,p1,q1,rfl,rfl,rfl,h1,r1⟩:=trodAll_cons r0
 obtain⟨v2,vs2,d2,ds2,p2,q2,rfl,rfl,rfl,h2,r2⟩:=trodAll_cons r1
 obtain⟨rfl,rfl,rfl⟩:=trodAll_nil r2
 obtain rfl:args= #[v0,v1,v2]:=by cases args;simp_all
 obtain⟨rfl,rfl⟩:=trodVars_none hV
 obtain⟨b0,n0,c0,rfl⟩:=okWide_slice Tryz.underlying66 (Mi 0 66 v0 rfl rfl)
 obtain⟨z1,rfl⟩:=okWide_int Tryz.underlying3 (Mi 1 3 v1 rfl rfl)
 obtain⟨z2,rfl⟩:=okWide_int Tryz.underlying3 (Mi 2 3 v2 rfl rfl)
 obtain⟨f0,hf0⟩:=h0
 obtain⟨x0,⟨u0,hu0,r0'⟩,wt0⟩:=ad1 H enc W f0 _ _ hf0
 obtain rfl:u0= .slice b0 n0 c0:=by simpa [Value.cells] using hu0.symm
 have hb:=bound hk
 simp only [cp,Rows.uptoBulkAll] at hb hW'
 have vz:(x0.map Wt.wt).sum+1≤Rows.uptoBulk d0:=wt0
 refine(NA (X:=aW W) r0' (fun o ho=>?_) W (Kp.refl _ _)).mono fun e W' ⟨v,he,Ej,hq⟩=>?_
 ·have h3:=vA ho
  have h4:Wt.wt o.kind+Wt.wt o.n+Wt.wt o.m+Wt.wt o.dD+1≤(x0.map Wt.wt).sum:=h3
  obtain⟨y1,y2,y3⟩:=afb (m:=o.m) (B:=1048576) (by omega) (by decide)
  exact⟨y1,y2,y3,afc (by omega)⟩
 subst he
 subst hq
 exact⟨_,rfl,abU Tj Tryz.underlying4 rfl rfl (by kernel_rfl) ⟨rfl,rfl,rfl⟩ hW' (by rw [cp] at*;exact hA0) Ej⟩
theorem lifted (os:Os) (started:os.Started) (H:Type) (enc:TypeId×Value→H) (F:Stop.Interp):
  ReturnsInHanded {} Tryz.checked os 5 .any ((Rows.OpenSpec.upto Rows.sinkBasesSpec).pre6 enc pg Tryz.f5 Rows.sinkBasesUptoRow.domain false) (((Rows.OpenSpec.upto Rows.sinkBasesSpec).at F).post enc pg Tryz.f5 false true false false):=by
 refine returnsInHanded_of_cond (C:=Tryz.checked) (s:=Rows.OpenSpec.upto Rows.sinkBasesSpec) (k:=Rows.uptoSmall) rfl abV started (by kernel_rfl) Tryz.func5
  (OpenSpec.witness (enc:=enc) (C:=Tryz.checked) (s:=Rows.OpenSpec.upto Rows.sinkBasesSpec) (k:=Rows.uptoSmall) rfl false ⟨#[],#[.slice none 0 0,I 0,I 0],[]⟩ 8 (by kernel_rfl) (by kernel_rfl) (by kernel_rfl)
   (x:=([.nil,.lit (.int .i64 0),.lit (.int .i64 0)],[],[])) (by kernel_rfl) rfl (by kernel_rfl)) ?_
 intro W base args ds gs before Mi hW _ hk _
 exact abT H enc W base args ds gs before Mi hW hk
theorem agW:((Rows.sinkBasesUptoRow).unfollowed==pg.unfollowed 5)=true:=by kernel_rfl
theorem agX:((Rows.sinkBasesUptoRow).recurses==pg.recurses 5)=true:=by kernel_rfl
theorem aam:((Rows.sinkBasesUptoRow).inPlace==pg.inPlace 5)=true:=by kernel_rfl
theorem ad2:((Rows.sinkBasesUptoRow).named==pg.varsNamed 5)=true:=by kernel_rfl
theorem V4:mapsRowed pg=true:=by kernel_rfl
theorem ad3:(pg.stops==[])=true:=by kernel_rfl
theorem ad4:(pg.stopKnobs==[])=true:=by kernel_rfl
theorem ad5:pg.stopsHeard=true:=by kernel_rfl
theorem agY:pg.mayEnter=true:=by kernel_rfl
theorem afd:((Rows.sinkBasesUptoRow).plainKeys==pg.plainKeys)=true:=by kernel_rfl
theorem abW:((Rows.sinkBasesUptoRow).lifted==pg.liftsFinal)=true:=by kernel_rfl
theorem afe:(pg.make==some (Rows.sinkBasesUptoRow).make)=true:=by kernel_rfl
theorem aff:joinedFacts pg 5 Tryz.f5 (Rows.OpenSpec.upto Rows.sinkBasesSpec).bare Rows.sinkBasesUptoRow=true:=by
 unfold joinedFacts
 simp only [Bool.and_eq_true]
 and_intros<;>first|with_reducible exact Tj|with_reducible exact agW|with_reducible exact agX|with_reducible exact aam|with_reducible exact ad2|with_reducible exact V4|with_reducible exact ad3|with_reducible exact ad4|with_reducible exact ad5|with_reducible exact agY|with_reducible exact afd|with_reducible exact abW|with_reducible exact afe|kernel_rfl
theorem proved:Rows.SinkBasesUptoSaid:=
 OpenClaim.holds_of_cond 5 Tryz.f5 rfl rfl rfl rfl rfl rfl rfl ⟨rfl,rfl,rfl,rfl,rfl⟩ rfl rfl rfl rfl rfl (by kernel_rfl) Tryz.func5 aff
  (of_decide_eq_true (by kernel_rfl)) (by unfold Func.isWrapper;first|(rw [if_pos (by decide+kernel)];kernel_rfl)|(rw [if_neg (by decide+kernel)];exact⟨rfl,rfl⟩))
  (fun os started H enc _ F=>lifted os started H enc F)
end sinkBases
end Go.Proofs.YtpdkoaklobnegaaGreat
