/-
  No cell of these rows narrows 'for every input' (looked for: loops, veiled, ifaces, maps, wideKeys, modest, calm, conditions, laid).
  DERIVED. THE GIVEN ROWS OF THIS SEAT. 6 by the template 'for every input the law returns true; each argument reads behind the call as it read before'; 0 by the template 'total and deterministic' (their statements: YtgfijddlkhkopaaGreatTotals.lean).
  GIVEN WITH THE SEED: the statements are not yours to turn. If you find one false, say at which input.
  Laid BY PROGRAM, IN A SANDBOX (cutbox-rows.mjs): the forced cells as the released guide's own fill.sh prints them over the translation a0a30516cc8774cf… (all of the seat's roots in one cut). By AI agents, Wed Nov 11 2026. No macro, syntax, notation, axiom, sorry.
-/
import Derived.Test.YtgfijddlkhkopaaGreatChecked
import GoSem.Claim
import GoSem.ClaimJoined
import GoSem.ClaimMapViews
import Derived.JoinedTies
import Derived.KernelRfl
namespace Go.Proofs.YtgfijddlkhkopaaGreat
/- THE CELL 'sum', in the pinned program and in every row, IS THE sha256 OF THE DUMP (.gsa) THAT YtgfijddlkhkopaaGreatProg.lean LOADS. Nothing in Lean hashes anything: it is a label: what it is worth is what the hold of that sum in a sandbox is worth. -/
noncomputable def Tryz.pinned : Pinned := { name := "ytgfijddlkhkopaagreat", sum := "a0a30516cc8774cf49029402f73e3c479ccdde016cbd850a4a05417b1b497c0d", checked := Tryz.checked }
namespace Rows
def none {H : Type} : Left H := { results := [], args := [] }

/-- 'racelaw17.CoordEnds': WHATEVER THE INPUT: true; the input reads as it did. -/
def coordEndsSpec : ChangeSpec := { name := "coordEnds", fn := fun _ => fun
  | [d1, d2] => { results := [.lit (.bool true)], args := [d1, d2] }
  | _ => none }
def coordEndsRow : OpenClaim := { program := "ytgfijddlkhkopaagreat", sum := "a0a30516cc8774cf49029402f73e3c479ccdde016cbd850a4a05417b1b497c0d", func := "headrace/racelaw17.CoordEnds", spec := "coordEnds", inPlace := ["math.Float64frombits", "math.Float64bits"], unfollowed := true, recurses := true, plainKeys := false, apart := false }
def CoordEndsSaid : Prop := coordEndsRow.holds Tryz.pinned (OpenSpec.ofChange coordEndsSpec)

/-- ITS FALSE NEIGHBOUR: 'it returns false'. Refute it at one input. -/
def coordEndsWrong : ChangeSpec := { name := "coordEnds", fn := fun _ => fun
  | [d1, d2] => { results := [.lit (.bool false)], args := [d1, d2] }
  | _ => none }
def CoordEndsWrongFalsely : Prop := coordEndsRow.holds Tryz.pinned (OpenSpec.ofChange coordEndsWrong)

/-- 'racelaw17.CoordVotes': WHATEVER THE INPUT: true; the input reads as it did. -/
def coordVotesSpec : ChangeSpec := { name := "coordVotes", fn := fun _ => fun
  | [d] => { results := [.lit (.bool true)], args := [d] }
  | _ => none }
def coordVotesRow : OpenClaim := { program := "ytgfijddlkhkopaagreat", sum := "a0a30516cc8774cf49029402f73e3c479ccdde016cbd850a4a05417b1b497c0d", func := "headrace/racelaw17.CoordVotes", spec := "coordVotes", inPlace := ["math.Float64frombits", "math.Float64bits"], unfollowed := true, recurses := true, plainKeys := false, apart := false }
def CoordVotesSaid : Prop := coordVotesRow.holds Tryz.pinned (OpenSpec.ofChange coordVotesSpec)

/-- ITS FALSE NEIGHBOUR: 'it returns false'. Refute it at one input. -/
def coordVotesWrong : ChangeSpec := { name := "coordVotes", fn := fun _ => fun
  | [d] => { results := [.lit (.bool false)], args := [d] }
  | _ => none }
def CoordVotesWrongFalsely : Prop := coordVotesRow.holds Tryz.pinned (OpenSpec.ofChange coordVotesWrong)

/-- 'racelaw17.CoordPresumes': WHATEVER THE INPUT: true; the input reads as it did. -/
def coordPresumesSpec : ChangeSpec := { name := "coordPresumes", fn := fun _ => fun
  | [d] => { results := [.lit (.bool true)], args := [d] }
  | _ => none }
def coordPresumesRow : OpenClaim := { program := "ytgfijddlkhkopaagreat", sum := "a0a30516cc8774cf49029402f73e3c479ccdde016cbd850a4a05417b1b497c0d", func := "headrace/racelaw17.CoordPresumes", spec := "coordPresumes", inPlace := ["math.Float64frombits", "math.Float64bits"], unfollowed := true, recurses := true, plainKeys := false, apart := false }
def CoordPresumesSaid : Prop := coordPresumesRow.holds Tryz.pinned (OpenSpec.ofChange coordPresumesSpec)

/-- ITS FALSE NEIGHBOUR: 'it returns false'. Refute it at one input. -/
def coordPresumesWrong : ChangeSpec := { name := "coordPresumes", fn := fun _ => fun
  | [d] => { results := [.lit (.bool false)], args := [d] }
  | _ => none }
def CoordPresumesWrongFalsely : Prop := coordPresumesRow.holds Tryz.pinned (OpenSpec.ofChange coordPresumesWrong)

/-- 'racelaw17.CoordTells': WHATEVER THE INPUT: true; the input reads as it did. -/
def coordTellsSpec : ChangeSpec := { name := "coordTells", fn := fun _ => fun
  | [d] => { results := [.lit (.bool true)], args := [d] }
  | _ => none }
def coordTellsRow : OpenClaim := { program := "ytgfijddlkhkopaagreat", sum := "a0a30516cc8774cf49029402f73e3c479ccdde016cbd850a4a05417b1b497c0d", func := "headrace/racelaw17.CoordTells", spec := "coordTells", inPlace := ["math.Float64frombits", "math.Float64bits"], unfollowed := true, recurses := true, plainKeys := false, apart := false }
def CoordTellsSaid : Prop := coordTellsRow.holds Tryz.pinned (OpenSpec.ofChange coordTellsSpec)

/-- ITS FALSE NEIGHBOUR: 'it returns false'. Refute it at one input. -/
def coordTellsWrong : ChangeSpec := { name := "coordTells", fn := fun _ => fun
  | [d] => { results := [.lit (.bool false)], args := [d] }
  | _ => none }
def CoordTellsWrongFalsely : Prop := coordTellsRow.holds Tryz.pinned (OpenSpec.ofChange coordTellsWrong)

/-- 'racelaw17.CoordLives': WHATEVER THE INPUT: true; the input reads as it did. -/
def coordLivesSpec : ChangeSpec := { name := "coordLives", fn := fun _ => fun
  | [d] => { results := [.lit (.bool true)], args := [d] }
  | _ => none }
def coordLivesRow : OpenClaim := { program := "ytgfijddlkhkopaagreat", sum := "a0a30516cc8774cf49029402f73e3c479ccdde016cbd850a4a05417b1b497c0d", func := "headrace/racelaw17.CoordLives", spec := "coordLives", inPlace := ["math.Float64frombits", "math.Float64bits"], unfollowed := true, recurses := true, plainKeys := false, apart := false }
def CoordLivesSaid : Prop := coordLivesRow.holds Tryz.pinned (OpenSpec.ofChange coordLivesSpec)

/-- ITS FALSE NEIGHBOUR: 'it returns false'. Refute it at one input. -/
def coordLivesWrong : ChangeSpec := { name := "coordLives", fn := fun _ => fun
  | [d] => { results := [.lit (.bool false)], args := [d] }
  | _ => none }
def CoordLivesWrongFalsely : Prop := coordLivesRow.holds Tryz.pinned (OpenSpec.ofChange coordLivesWrong)

/-- 'racelaw17.CoordPassed': WHATEVER THE INPUT: true; the input reads as it did. -/
def coordPassedSpec : ChangeSpec := { name := "coordPassed", fn := fun _ => fun
  | [d1, d2] => { results := [.lit (.bool true)], args := [d1, d2] }
  | _ => none }
def coordPassedRow : OpenClaim := { program := "ytgfijddlkhkopaagreat", sum := "a0a30516cc8774cf49029402f73e3c479ccdde016cbd850a4a05417b1b497c0d", func := "headrace/racelaw17.CoordPassed", spec := "coordPassed", inPlace := ["math.Float64frombits", "math.Float64bits"], unfollowed := true, recurses := true, plainKeys := false, apart := false }
def CoordPassedSaid : Prop := coordPassedRow.holds Tryz.pinned (OpenSpec.ofChange coordPassedSpec)

/-- ITS FALSE NEIGHBOUR: 'it returns false'. Refute it at one input. -/
def coordPassedWrong : ChangeSpec := { name := "coordPassed", fn := fun _ => fun
  | [d1, d2] => { results := [.lit (.bool false)], args := [d1, d2] }
  | _ => none }
def CoordPassedWrongFalsely : Prop := coordPassedRow.holds Tryz.pinned (OpenSpec.ofChange coordPassedWrong)

/- THE SECOND FORM. 'bulk': how many values and letters a reading holds, each counted each time it is reached (what is shared counts as often as it is met; a slice's spare places count too). A statement '..UptoSaid' is the law's where the arguments, and the package variables that the reading takes, are together of bulk at most 1048576: NARROWER than '..Said'. Prove '..Said' where nothing that the law and all that it calls make is longer than what came in: it says more and counts as full. Else prove '..UptoSaid'. A law counts once. -/
mutual
def uptoBulk {H : Type} : DataW H → Nat
  | .lit (.string bytes) => bytes.length + 1
  | .lit _ => 1
  | .nil => 1
  | .ptr d => uptoBulk d + 1
  | .slice elems spare => uptoBulkAll elems + uptoBulkAll spare + 1
  | .agg parts => uptoBulkAll parts + 1
  | .iface _ d => uptoBulk d + 1
  | .map entries => uptoBulkEntries entries + 1
  | .held _ => 1
def uptoBulkAll {H : Type} : List (DataW H) → Nat
  | [] => 0
  | d :: r => uptoBulk d + uptoBulkAll r
def uptoBulkEntries {H : Type} : List (Lit × DataW H) → Nat
  | [] => 0
  | x :: r => uptoBulkEntry x + uptoBulkEntries r
def uptoBulkEntry {H : Type} : Lit × DataW H → Nat
  | (.string bytes, d) => bytes.length + uptoBulk d + 1
  | (_, d) => uptoBulk d + 1
 end
def uptoSmall : (H : Type) → List (DataW H) → Bool := fun _ ds => decide (uptoBulkAll ds ≤ 1048576)
def OpenSpec.upto (s : _root_.Go.ChangeSpec) : _root_.Go.OpenSpec := { _root_.Go.OpenSpec.ofChange s with cond := some uptoSmall }

/-- 'racelaw17.CoordEnds', WHERE WHAT IT READS IS OF BULK AT MOST 1048576: true; the input reads as it did. -/
def coordEndsUptoRow : OpenClaim := { program := "ytgfijddlkhkopaagreat", sum := "a0a30516cc8774cf49029402f73e3c479ccdde016cbd850a4a05417b1b497c0d", func := "headrace/racelaw17.CoordEnds", spec := "coordEnds", inPlace := ["math.Float64frombits", "math.Float64bits"], unfollowed := true, recurses := true, plainKeys := false, apart := false, narrowed := true }
def CoordEndsUptoSaid : Prop := coordEndsUptoRow.holds Tryz.pinned (OpenSpec.upto coordEndsSpec)

/-- 'racelaw17.CoordVotes', WHERE WHAT IT READS IS OF BULK AT MOST 1048576: true; the input reads as it did. -/
def coordVotesUptoRow : OpenClaim := { program := "ytgfijddlkhkopaagreat", sum := "a0a30516cc8774cf49029402f73e3c479ccdde016cbd850a4a05417b1b497c0d", func := "headrace/racelaw17.CoordVotes", spec := "coordVotes", inPlace := ["math.Float64frombits", "math.Float64bits"], unfollowed := true, recurses := true, plainKeys := false, apart := false, narrowed := true }
def CoordVotesUptoSaid : Prop := coordVotesUptoRow.holds Tryz.pinned (OpenSpec.upto coordVotesSpec)

/-- 'racelaw17.CoordPresumes', WHERE WHAT IT READS IS OF BULK AT MOST 1048576: true; the input reads as it did. -/
def coordPresumesUptoRow : OpenClaim := { program := "ytgfijddlkhkopaagreat", sum := "a0a30516cc8774cf49029402f73e3c479ccdde016cbd850a4a05417b1b497c0d", func := "headrace/racelaw17.CoordPresumes", spec := "coordPresumes", inPlace := ["math.Float64frombits", "math.Float64bits"], unfollowed := true, recurses := true, plainKeys := false, apart := false, narrowed := true }
def CoordPresumesUptoSaid : Prop := coordPresumesUptoRow.holds Tryz.pinned (OpenSpec.upto coordPresumesSpec)

/-- 'racelaw17.CoordTells', WHERE WHAT IT READS IS OF BULK AT MOST 1048576: true; the input reads as it did. -/
def coordTellsUptoRow : OpenClaim := { program := "ytgfijddlkhkopaagreat", sum := "a0a30516cc8774cf49029402f73e3c479ccdde016cbd850a4a05417b1b497c0d", func := "headrace/racelaw17.CoordTells", spec := "coordTells", inPlace := ["math.Float64frombits", "math.Float64bits"], unfollowed := true, recurses := true, plainKeys := false, apart := false, narrowed := true }
def CoordTellsUptoSaid : Prop := coordTellsUptoRow.holds Tryz.pinned (OpenSpec.upto coordTellsSpec)

/-- 'racelaw17.CoordLives', WHERE WHAT IT READS IS OF BULK AT MOST 1048576: true; the input reads as it did. -/
def coordLivesUptoRow : OpenClaim := { program := "ytgfijddlkhkopaagreat", sum := "a0a30516cc8774cf49029402f73e3c479ccdde016cbd850a4a05417b1b497c0d", func := "headrace/racelaw17.CoordLives", spec := "coordLives", inPlace := ["math.Float64frombits", "math.Float64bits"], unfollowed := true, recurses := true, plainKeys := false, apart := false, narrowed := true }
def CoordLivesUptoSaid : Prop := coordLivesUptoRow.holds Tryz.pinned (OpenSpec.upto coordLivesSpec)

/-- 'racelaw17.CoordPassed', WHERE WHAT IT READS IS OF BULK AT MOST 1048576: true; the input reads as it did. -/
def coordPassedUptoRow : OpenClaim := { program := "ytgfijddlkhkopaagreat", sum := "a0a30516cc8774cf49029402f73e3c479ccdde016cbd850a4a05417b1b497c0d", func := "headrace/racelaw17.CoordPassed", spec := "coordPassed", inPlace := ["math.Float64frombits", "math.Float64bits"], unfollowed := true, recurses := true, plainKeys := false, apart := false, narrowed := true }
def CoordPassedUptoSaid : Prop := coordPassedUptoRow.holds Tryz.pinned (OpenSpec.upto coordPassedSpec)

end Rows
end Go.Proofs.YtgfijddlkhkopaaGreat
