/-
 Part 10 of the proof: what the last text leans on.
-/
import Derived.Test.YtfndblbeikocdaaGreatY9
open List renaming length_append → ae, length_map → ay
set_option linter.unusedVariables false
set_option linter.unusedSimpArgs false
namespace Go.Proofs.YtfndblbeikocdaaGreat
open Go.Proofs.Tryz renaming prog → pg
open Go.bu
set_option maxRecDepth 100000
set_option maxHeartbeats 1000000
set_option linter.unusedVariables false
set_option linter.unusedSimpArgs false
attribute [local irreducible] un jn aF aT ld1 ew st1 dt cB lS dV lT uN tG gq fW ad az aJ eW eV eU eC eF gE au fin aQ aM aH vS xt gp il pR uO xu xv xw xx gm im pS uP xy xz xA
theorem YI {w:World} {X F:XS} {hv:Value} {xs:List FV} {n:Nat} (own:Ow w F 156 9 hv (xs.map FV.l)) (hF: ∀k,F k→X k) (hr: ∀y∈xs,bu.one y.1=true) (hn:n≤xs.length) (hl:xs.length≤2^40):
  Ct pg 174 #[hv,I 0,I n] w X (dK hv) fun v wa w'=> ∃F',Ow w' F' 156 9 v ((xs.drop n).map FV.l)∧ ∀k,F' k→dK hv k∨made wa w' k:=by
 intro w0 hk;have Eb:=own.mv ((Mv.sub hF).trans hk.cL);have hT:Ft w0 (dK hv) w0 (aS w0) (dK hv):=Ft.init fun k ah=>(Eb.bg ah).2;have tt: ∀r∈xs.map FV.l,∀u∈r,bu.one u=true:=fun r jm u hu=>by
  obtain⟨y,hy,rfl⟩:=List.mem_map.1 jm;have:=hr y hy;simp only [FV.l,eB.l,List.mem_cons,List.not_mem_nil,or_false] at hu;rcases hu with rfl|rfl|rfl|rfl|rfl|rfl|rfl|rfl|rfl<;>first|rfl|exact this
 have mg:=Eb.sl;apply od;unfold jy;have hs:=ak.init w0;by_cases h0:n=0
 ·subst h0;repeat' first|refine aD ?_;intros
  obtain⟨b1,n1,c1,rfl⟩:=mg.form;have hb:=mg.2.2;refine Ve (i:=0) (j:=0) (q:=xs.length) rfl rfl rfl zQ zQ ?_ kQ kQ fun _=>?_
  ·rcases Ik Eb with⟨h1,h2⟩|⟨g,off,cap,A,Z,h1,_,_,h2,_⟩
   ·simp at h2;subst h2;simp
   ·simp only [Value.slice.injEq] at h1;rw [ay] at h2;omega
  repeat' first|refine bO ?_;intros
  exact hT.fin fun wa bC=>Dc (by simpa using Eb) bC fun g hg=>.inl hg
 ·rcases Ik Eb with⟨_,h⟩|⟨g,off,cap,A,Z,rfl,bE,hA,jh,iB,hZ⟩
  ·simp at h;subst h;simp at hn;omega
  rw [ay] at jh hZ;simp only [ay] at*;repeat' first|refine aD ?_;intros
  refine Ve (i:=0) (j:=n) (q:=xs.length) rfl rfl rfl zQ hn jh kQ kQ fun _=>?_;repeat' first|refine bO ?_;intros
  refine yL (i:=0) rfl zQ kQ kQ ?_;refine Vf mg (i:=n) rfl (by simpa using hn) kQ kQ fun v2 dI=>?_;have hlen: ∀r∈(xs.drop n).map FV.l,r.length=9:=fun r jm=>by obtain⟨y,_,rfl⟩:=List.mem_map.1 jm;rfl
  have fC:((xs.map FV.l).flatten).length=xs.length*9:=by rw [gQ (k:=9) fun r jm=>by obtain⟨y,_,rfl⟩:=List.mem_map.1 jm;rfl];simp
  have hdl:(((xs.drop n).map FV.l).flatten).length=(xs.length-n)*9:=by rw [gQ (k:=9) hlen];simp
  rw [←List.map_drop] at dI;obtain⟨E1,E2,hE,AH⟩: ∃E1 E2,(xs.map FV.l).flatten=E1++E2∧E1.length=(xs.length-n)*9:=⟨((xs.map FV.l).flatten).take ((xs.length-n)*9),((xs.map FV.l).flatten).drop ((xs.length-n)*9),(List.take_append_drop _ _).symm,by rw [List.length_take,fC];omega⟩;have uQ:E2.length=n*9:=by have:=fC;rw [hE,ae,AH] at this;omega
  have jI:((xs.drop n).map FV.l).length=xs.length-n:=by simp
  refine aay (k:=9) (n:=0) kQ bE dI (fun r jm u hu=>tt r (by
   obtain⟨y,hy,rfl⟩:=List.mem_map.1 jm;exact List.mem_map.2 ⟨y,List.mem_of_mem_drop hy,rfl⟩) u hu) zQ (by simp only [ae,hA,fC];omega) hs.has fun w1 X1 c1 vH=>?_
  rw [hE,show A++(E1++E2)++Z=A++E1++(E2++Z)by simp,qb (by rw [hA];omega) (by rw [AH,hdl])] at vH;rw [jI,Nat.zero_add];have de:=hT.dF c1 (fun k ah=>by subst ah;rfl) (F':=dK (.slice (some ⟨g,off,none⟩) xs.length cap)) fun k ah=>.inl ah;have ll:Ow w1 X1 156 9 (.slice (some ⟨g,off,none⟩) (xs.length-n) cap) ((xs.drop n).map FV.l):=LA hlen vH hA jI zQ iB (by rw [jI,ae,uQ];omega);have aq:=ll.sl;repeat' first|refine aD ?_;intros
  refine adV (k:=9) (i:=xs.length-n) (j:=xs.length) (by simp) rfl zQ jh zQ kQ kQ ?_;refine KB (k:=9) (bytes:=88) (e:=156) vH kQ kQ zQ (by simp only [ae,hA,hdl,uQ];omega) de.s.has fun w2 X2 zs Dd c2 tH=>?_;rw [show A++((xs.drop n).map FV.l).flatten++(E2++Z)=(A++((xs.drop n).map FV.l).flatten)++E2++Z by simp,qb (by simp only [ae,hA,hdl]) (by rw [uQ,Dd];omega)] at tH;have b8:=de.dF c2 (fun k ah=>by subst ah;rfl) (F':=nX) fun k ah=>ah.elim;refine b8.fin fun wa bC=>Dc (LA (k:=9) (A:=A) (Z:=zs++Z) hlen (by simpa using tH) hA jI zQ iB (by rw [jI,ae,Dd];omega)) bC fun g' gl=>.inl (by cases gl;rfl)
end Go.Proofs.YtfndblbeikocdaaGreat
