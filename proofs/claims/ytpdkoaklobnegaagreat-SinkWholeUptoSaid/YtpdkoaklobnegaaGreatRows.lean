/-
  No cell of these rows narrows 'for every input' (looked for: loops, veiled, ifaces, maps, wideKeys, modest, calm, conditions, laid).
  DERIVED. THE GIVEN ROWS OF THIS SEAT. 6 by the template 'for every input the law returns true; each argument reads behind the call as it read before'; 0 by the template 'total and deterministic' (their statements: YtpdkoaklobnegaaGreatTotals.lean).
  GIVEN WITH THE SEED: the statements are not yours to turn. If you find one false, say at which input.
  Laid BY PROGRAM, IN A SANDBOX (cutbox-rows.mjs): the forced cells as the released guide's own fill.sh prints them over the translation 3a228157d59f4f68… (all of the seat's roots in one cut). By AI agents, Wed Nov 11 2026. No macro, syntax, notation, axiom, sorry.
-/
import Derived.Test.YtpdkoaklobnegaaGreatChecked
import GoSem.Claim
import GoSem.ClaimJoined
import GoSem.ClaimMapViews
import Derived.JoinedTies
import Derived.KernelRfl
namespace Go.Proofs.YtpdkoaklobnegaaGreat
/- THE CELL 'sum', in the pinned program and in every row, IS THE sha256 OF THE DUMP (.gsa) THAT YtpdkoaklobnegaaGreatProg.lean LOADS. Nothing in Lean hashes anything: it is a label: what it is worth is what the hold of that sum in a sandbox is worth. -/
noncomputable def Tryz.pinned : Pinned := { name := "ytpdkoaklobnegaagreat", sum := "3a228157d59f4f688cf489d74362cdd81fa0ee2f7d769ddcfcba6fe6ae58252b", checked := Tryz.checked }
namespace Rows
def none {H : Type} : Left H := { results := [], args := [] }

/-- 'racelaw22.SinkOnce': WHATEVER THE INPUT: true; the input reads as it did. -/
def sinkOnceSpec : ChangeSpec := { name := "sinkOnce", fn := fun _ => fun
  | [d1, d2, d3] => { results := [.lit (.bool true)], args := [d1, d2, d3] }
  | _ => none }
def sinkOnceRow : OpenClaim := { program := "ytpdkoaklobnegaagreat", sum := "3a228157d59f4f688cf489d74362cdd81fa0ee2f7d769ddcfcba6fe6ae58252b", func := "headrace/racelaw22.SinkOnce", spec := "sinkOnce", inPlace := ["math.Float64frombits", "math.Float64bits"], unfollowed := true, recurses := true, plainKeys := false, apart := false }
def SinkOnceSaid : Prop := sinkOnceRow.holds Tryz.pinned (OpenSpec.ofChange sinkOnceSpec)

/-- ITS FALSE NEIGHBOUR: 'it returns false'. Refute it at one input. -/
def sinkOnceWrong : ChangeSpec := { name := "sinkOnce", fn := fun _ => fun
  | [d1, d2, d3] => { results := [.lit (.bool false)], args := [d1, d2, d3] }
  | _ => none }
def SinkOnceWrongFalsely : Prop := sinkOnceRow.holds Tryz.pinned (OpenSpec.ofChange sinkOnceWrong)

/-- 'racelaw22.SinkGets': WHATEVER THE INPUT: true; the input reads as it did. -/
def sinkGetsSpec : ChangeSpec := { name := "sinkGets", fn := fun _ => fun
  | [d1, d2] => { results := [.lit (.bool true)], args := [d1, d2] }
  | _ => none }
def sinkGetsRow : OpenClaim := { program := "ytpdkoaklobnegaagreat", sum := "3a228157d59f4f688cf489d74362cdd81fa0ee2f7d769ddcfcba6fe6ae58252b", func := "headrace/racelaw22.SinkGets", spec := "sinkGets", inPlace := ["math.Float64frombits", "math.Float64bits"], unfollowed := true, recurses := true, plainKeys := false, apart := false }
def SinkGetsSaid : Prop := sinkGetsRow.holds Tryz.pinned (OpenSpec.ofChange sinkGetsSpec)

/-- ITS FALSE NEIGHBOUR: 'it returns false'. Refute it at one input. -/
def sinkGetsWrong : ChangeSpec := { name := "sinkGets", fn := fun _ => fun
  | [d1, d2] => { results := [.lit (.bool false)], args := [d1, d2] }
  | _ => none }
def SinkGetsWrongFalsely : Prop := sinkGetsRow.holds Tryz.pinned (OpenSpec.ofChange sinkGetsWrong)

/-- 'racelaw22.SinkBases': WHATEVER THE INPUT: true; the input reads as it did. -/
def sinkBasesSpec : ChangeSpec := { name := "sinkBases", fn := fun _ => fun
  | [d1, d2, d3] => { results := [.lit (.bool true)], args := [d1, d2, d3] }
  | _ => none }
def sinkBasesRow : OpenClaim := { program := "ytpdkoaklobnegaagreat", sum := "3a228157d59f4f688cf489d74362cdd81fa0ee2f7d769ddcfcba6fe6ae58252b", func := "headrace/racelaw22.SinkBases", spec := "sinkBases", inPlace := ["math.Float64frombits", "math.Float64bits"], unfollowed := true, recurses := true, plainKeys := false, apart := false }
def SinkBasesSaid : Prop := sinkBasesRow.holds Tryz.pinned (OpenSpec.ofChange sinkBasesSpec)

/-- ITS FALSE NEIGHBOUR: 'it returns false'. Refute it at one input. -/
def sinkBasesWrong : ChangeSpec := { name := "sinkBases", fn := fun _ => fun
  | [d1, d2, d3] => { results := [.lit (.bool false)], args := [d1, d2, d3] }
  | _ => none }
def SinkBasesWrongFalsely : Prop := sinkBasesRow.holds Tryz.pinned (OpenSpec.ofChange sinkBasesWrong)

/-- 'racelaw22.SinkWhole': WHATEVER THE INPUT: true; the input reads as it did. -/
def sinkWholeSpec : ChangeSpec := { name := "sinkWhole", fn := fun _ => fun
  | [d1, d2, d3] => { results := [.lit (.bool true)], args := [d1, d2, d3] }
  | _ => none }
def sinkWholeRow : OpenClaim := { program := "ytpdkoaklobnegaagreat", sum := "3a228157d59f4f688cf489d74362cdd81fa0ee2f7d769ddcfcba6fe6ae58252b", func := "headrace/racelaw22.SinkWhole", spec := "sinkWhole", inPlace := ["math.Float64frombits", "math.Float64bits"], unfollowed := true, recurses := true, plainKeys := false, apart := false }
def SinkWholeSaid : Prop := sinkWholeRow.holds Tryz.pinned (OpenSpec.ofChange sinkWholeSpec)

/-- ITS FALSE NEIGHBOUR: 'it returns false'. Refute it at one input. -/
def sinkWholeWrong : ChangeSpec := { name := "sinkWhole", fn := fun _ => fun
  | [d1, d2, d3] => { results := [.lit (.bool false)], args := [d1, d2, d3] }
  | _ => none }
def SinkWholeWrongFalsely : Prop := sinkWholeRow.holds Tryz.pinned (OpenSpec.ofChange sinkWholeWrong)

/-- 'racelaw22.SinkPlays': WHATEVER THE INPUT: true; the input reads as it did. -/
def sinkPlaysSpec : ChangeSpec := { name := "sinkPlays", fn := fun _ => fun
  | [d1, d2, d3] => { results := [.lit (.bool true)], args := [d1, d2, d3] }
  | _ => none }
def sinkPlaysRow : OpenClaim := { program := "ytpdkoaklobnegaagreat", sum := "3a228157d59f4f688cf489d74362cdd81fa0ee2f7d769ddcfcba6fe6ae58252b", func := "headrace/racelaw22.SinkPlays", spec := "sinkPlays", inPlace := ["math.Float64frombits", "math.Float64bits"], unfollowed := true, recurses := true, plainKeys := false, apart := false }
def SinkPlaysSaid : Prop := sinkPlaysRow.holds Tryz.pinned (OpenSpec.ofChange sinkPlaysSpec)

/-- ITS FALSE NEIGHBOUR: 'it returns false'. Refute it at one input. -/
def sinkPlaysWrong : ChangeSpec := { name := "sinkPlays", fn := fun _ => fun
  | [d1, d2, d3] => { results := [.lit (.bool false)], args := [d1, d2, d3] }
  | _ => none }
def SinkPlaysWrongFalsely : Prop := sinkPlaysRow.holds Tryz.pinned (OpenSpec.ofChange sinkPlaysWrong)

/-- 'racelaw22.SinkOpens': WHATEVER THE INPUT: true; the input reads as it did. -/
def sinkOpensSpec : ChangeSpec := { name := "sinkOpens", fn := fun _ => fun
  | [d1, d2, d3, d4, d5] => { results := [.lit (.bool true)], args := [d1, d2, d3, d4, d5] }
  | _ => none }
def sinkOpensRow : OpenClaim := { program := "ytpdkoaklobnegaagreat", sum := "3a228157d59f4f688cf489d74362cdd81fa0ee2f7d769ddcfcba6fe6ae58252b", func := "headrace/racelaw22.SinkOpens", spec := "sinkOpens", inPlace := ["math.Float64frombits", "math.Float64bits"], unfollowed := true, recurses := true, plainKeys := false, apart := false }
def SinkOpensSaid : Prop := sinkOpensRow.holds Tryz.pinned (OpenSpec.ofChange sinkOpensSpec)

/-- ITS FALSE NEIGHBOUR: 'it returns false'. Refute it at one input. -/
def sinkOpensWrong : ChangeSpec := { name := "sinkOpens", fn := fun _ => fun
  | [d1, d2, d3, d4, d5] => { results := [.lit (.bool false)], args := [d1, d2, d3, d4, d5] }
  | _ => none }
def SinkOpensWrongFalsely : Prop := sinkOpensRow.holds Tryz.pinned (OpenSpec.ofChange sinkOpensWrong)

/- THE SECOND FORM. 'bulk': how many values and letters a reading holds, each counted each time it is reached (what is shared counts as often as it is met; a slice's spare places count too). A statement '..UptoSaid' is the law's where the arguments, and the package variables that the reading takes, are together of bulk at most 1048576: NARROWER than '..Said'. Prove '..Said' where nothing that the law and all that it calls make is longer than what came in: it says more and counts as full. Else prove '..UptoSaid'. A law counts once. -/
mutual
def uptoBulk {H : Type} : DataW H → Nat
  | .lit (.string bytes) => bytes.length + 1
  | .lit _ => 1
  | .nil => 1
  | .ptr d => uptoBulk d + 1
  | .slice elems spare => uptoBulkAll elems + uptoBulkAll spare + 1
  | .agg parts => uptoBulkAll parts + 1
  | .iface _ d => uptoBulk d + 1
  | .map entries => uptoBulkEntries entries + 1
  | .held _ => 1
def uptoBulkAll {H : Type} : List (DataW H) → Nat
  | [] => 0
  | d :: r => uptoBulk d + uptoBulkAll r
def uptoBulkEntries {H : Type} : List (Lit × DataW H) → Nat
  | [] => 0
  | x :: r => uptoBulkEntry x + uptoBulkEntries r
def uptoBulkEntry {H : Type} : Lit × DataW H → Nat
  | (.string bytes, d) => bytes.length + uptoBulk d + 1
  | (_, d) => uptoBulk d + 1
 end
def uptoSmall : (H : Type) → List (DataW H) → Bool := fun _ ds => decide (uptoBulkAll ds ≤ 1048576)
def OpenSpec.upto (s : _root_.Go.ChangeSpec) : _root_.Go.OpenSpec := { _root_.Go.OpenSpec.ofChange s with cond := some uptoSmall }

/-- 'racelaw22.SinkOnce', WHERE WHAT IT READS IS OF BULK AT MOST 1048576: true; the input reads as it did. -/
def sinkOnceUptoRow : OpenClaim := { program := "ytpdkoaklobnegaagreat", sum := "3a228157d59f4f688cf489d74362cdd81fa0ee2f7d769ddcfcba6fe6ae58252b", func := "headrace/racelaw22.SinkOnce", spec := "sinkOnce", inPlace := ["math.Float64frombits", "math.Float64bits"], unfollowed := true, recurses := true, plainKeys := false, apart := false, narrowed := true }
def SinkOnceUptoSaid : Prop := sinkOnceUptoRow.holds Tryz.pinned (OpenSpec.upto sinkOnceSpec)

/-- 'racelaw22.SinkGets', WHERE WHAT IT READS IS OF BULK AT MOST 1048576: true; the input reads as it did. -/
def sinkGetsUptoRow : OpenClaim := { program := "ytpdkoaklobnegaagreat", sum := "3a228157d59f4f688cf489d74362cdd81fa0ee2f7d769ddcfcba6fe6ae58252b", func := "headrace/racelaw22.SinkGets", spec := "sinkGets", inPlace := ["math.Float64frombits", "math.Float64bits"], unfollowed := true, recurses := true, plainKeys := false, apart := false, narrowed := true }
def SinkGetsUptoSaid : Prop := sinkGetsUptoRow.holds Tryz.pinned (OpenSpec.upto sinkGetsSpec)

/-- 'racelaw22.SinkBases', WHERE WHAT IT READS IS OF BULK AT MOST 1048576: true; the input reads as it did. -/
def sinkBasesUptoRow : OpenClaim := { program := "ytpdkoaklobnegaagreat", sum := "3a228157d59f4f688cf489d74362cdd81fa0ee2f7d769ddcfcba6fe6ae58252b", func := "headrace/racelaw22.SinkBases", spec := "sinkBases", inPlace := ["math.Float64frombits", "math.Float64bits"], unfollowed := true, recurses := true, plainKeys := false, apart := false, narrowed := true }
def SinkBasesUptoSaid : Prop := sinkBasesUptoRow.holds Tryz.pinned (OpenSpec.upto sinkBasesSpec)

/-- 'racelaw22.SinkWhole', WHERE WHAT IT READS IS OF BULK AT MOST 1048576: true; the input reads as it did. -/
def sinkWholeUptoRow : OpenClaim := { program := "ytpdkoaklobnegaagreat", sum := "3a228157d59f4f688cf489d74362cdd81fa0ee2f7d769ddcfcba6fe6ae58252b", func := "headrace/racelaw22.SinkWhole", spec := "sinkWhole", inPlace := ["math.Float64frombits", "math.Float64bits"], unfollowed := true, recurses := true, plainKeys := false, apart := false, narrowed := true }
def SinkWholeUptoSaid : Prop := sinkWholeUptoRow.holds Tryz.pinned (OpenSpec.upto sinkWholeSpec)

/-- 'racelaw22.SinkPlays', WHERE WHAT IT READS IS OF BULK AT MOST 1048576: true; the input reads as it did. -/
def sinkPlaysUptoRow : OpenClaim := { program := "ytpdkoaklobnegaagreat", sum := "3a228157d59f4f688cf489d74362cdd81fa0ee2f7d769ddcfcba6fe6ae58252b", func := "headrace/racelaw22.SinkPlays", spec := "sinkPlays", inPlace := ["math.Float64frombits", "math.Float64bits"], unfollowed := true, recurses := true, plainKeys := false, apart := false, narrowed := true }
def SinkPlaysUptoSaid : Prop := sinkPlaysUptoRow.holds Tryz.pinned (OpenSpec.upto sinkPlaysSpec)

/-- 'racelaw22.SinkOpens', WHERE WHAT IT READS IS OF BULK AT MOST 1048576: true; the input reads as it did. -/
def sinkOpensUptoRow : OpenClaim := { program := "ytpdkoaklobnegaagreat", sum := "3a228157d59f4f688cf489d74362cdd81fa0ee2f7d769ddcfcba6fe6ae58252b", func := "headrace/racelaw22.SinkOpens", spec := "sinkOpens", inPlace := ["math.Float64frombits", "math.Float64bits"], unfollowed := true, recurses := true, plainKeys := false, apart := false, narrowed := true }
def SinkOpensUptoSaid : Prop := sinkOpensUptoRow.holds Tryz.pinned (OpenSpec.upto sinkOpensSpec)

end Rows
end Go.Proofs.YtpdkoaklobnegaaGreat
