/-
  No cell of these rows narrows 'for every input' (looked for: loops, veiled, ifaces, maps, wideKeys, modest, calm, conditions, laid).
  DERIVED. THE GIVEN ROWS OF THIS SEAT. 6 by the template 'for every input the law returns true; each argument reads behind the call as it read before'; 0 by the template 'total and deterministic' (their statements: YtecomenbmdembaaTotals.lean).
  GIVEN WITH THE SEED: the statements are not yours to turn. If you find one false, say at which input.
  Laid BY PROGRAM, IN A SANDBOX (cutbox-rows.mjs): the forced cells as the released guide's own fill.sh prints them over the translation 23f141886f9f2235… (all of the seat's roots in one cut). By AI agents, Wed Nov 11 2026. No macro, syntax, notation, axiom, sorry.
-/
import Derived.Test.YtecomenbmdembaaChecked
import GoSem.Claim
import GoSem.ClaimJoined
import GoSem.ClaimMapViews
import Derived.JoinedTies
import Derived.KernelRfl
namespace Go.Proofs.Ytecomenbmdembaa
/- THE CELL 'sum', in the pinned program and in every row, IS THE sha256 OF THE DUMP (.gsa) THAT YtecomenbmdembaaProg.lean LOADS. Nothing in Lean hashes anything: it is a label: what it is worth is what the hold of that sum in a sandbox is worth. -/
noncomputable def Try.pinned : Pinned := { name := "ytecomenbmdembaa", sum := "23f141886f9f22353611f9f849ac80379fa9261dff75d8db2ecfcbc835be228c", checked := Try.checked }
namespace Rows
def none {H : Type} : Left H := { results := [], args := [] }

/-- 'packhorselaw03.DayDoors': WHATEVER THE INPUT: true; the input reads as it did. -/
def dayDoorsSpec : ChangeSpec := { name := "dayDoors", fn := fun _ => fun
  | [d] => { results := [.lit (.bool true)], args := [d] }
  | _ => none }
def dayDoorsRow : OpenClaim := { program := "ytecomenbmdembaa", sum := "23f141886f9f22353611f9f849ac80379fa9261dff75d8db2ecfcbc835be228c", func := "packhorse/packhorselaw03.DayDoors", spec := "dayDoors", unfollowed := true, recurses := true, apart := false }
def DayDoorsSaid : Prop := dayDoorsRow.holds Try.pinned (OpenSpec.ofChange dayDoorsSpec)

/-- ITS FALSE NEIGHBOUR: 'it returns false'. Refute it at one input. -/
def dayDoorsWrong : ChangeSpec := { name := "dayDoors", fn := fun _ => fun
  | [d] => { results := [.lit (.bool false)], args := [d] }
  | _ => none }
def DayDoorsWrongFalsely : Prop := dayDoorsRow.holds Try.pinned (OpenSpec.ofChange dayDoorsWrong)

/-- 'packhorselaw03.DayNext': WHATEVER THE INPUT: true; the input reads as it did. -/
def dayNextSpec : ChangeSpec := { name := "dayNext", fn := fun _ => fun
  | [d1, d2] => { results := [.lit (.bool true)], args := [d1, d2] }
  | _ => none }
def dayNextRow : OpenClaim := { program := "ytecomenbmdembaa", sum := "23f141886f9f22353611f9f849ac80379fa9261dff75d8db2ecfcbc835be228c", func := "packhorse/packhorselaw03.DayNext", spec := "dayNext", unfollowed := true, recurses := true, apart := false }
def DayNextSaid : Prop := dayNextRow.holds Try.pinned (OpenSpec.ofChange dayNextSpec)

/-- ITS FALSE NEIGHBOUR: 'it returns false'. Refute it at one input. -/
def dayNextWrong : ChangeSpec := { name := "dayNext", fn := fun _ => fun
  | [d1, d2] => { results := [.lit (.bool false)], args := [d1, d2] }
  | _ => none }
def DayNextWrongFalsely : Prop := dayNextRow.holds Try.pinned (OpenSpec.ofChange dayNextWrong)

/-- 'packhorselaw03.DayWeeks': WHATEVER THE INPUT: true; the input reads as it did. -/
def dayWeeksSpec : ChangeSpec := { name := "dayWeeks", fn := fun _ => fun
  | [d1, d2] => { results := [.lit (.bool true)], args := [d1, d2] }
  | _ => none }
def dayWeeksRow : OpenClaim := { program := "ytecomenbmdembaa", sum := "23f141886f9f22353611f9f849ac80379fa9261dff75d8db2ecfcbc835be228c", func := "packhorse/packhorselaw03.DayWeeks", spec := "dayWeeks", unfollowed := true, recurses := true, apart := false }
def DayWeeksSaid : Prop := dayWeeksRow.holds Try.pinned (OpenSpec.ofChange dayWeeksSpec)

/-- ITS FALSE NEIGHBOUR: 'it returns false'. Refute it at one input. -/
def dayWeeksWrong : ChangeSpec := { name := "dayWeeks", fn := fun _ => fun
  | [d1, d2] => { results := [.lit (.bool false)], args := [d1, d2] }
  | _ => none }
def DayWeeksWrongFalsely : Prop := dayWeeksRow.holds Try.pinned (OpenSpec.ofChange dayWeeksWrong)

/-- 'packhorselaw03.DayPassed': WHATEVER THE INPUT: true; the input reads as it did. -/
def dayPassedSpec : ChangeSpec := { name := "dayPassed", fn := fun _ => fun
  | [d1, d2, d3] => { results := [.lit (.bool true)], args := [d1, d2, d3] }
  | _ => none }
def dayPassedRow : OpenClaim := { program := "ytecomenbmdembaa", sum := "23f141886f9f22353611f9f849ac80379fa9261dff75d8db2ecfcbc835be228c", func := "packhorse/packhorselaw03.DayPassed", spec := "dayPassed", unfollowed := true, recurses := true, apart := false }
def DayPassedSaid : Prop := dayPassedRow.holds Try.pinned (OpenSpec.ofChange dayPassedSpec)

/-- ITS FALSE NEIGHBOUR: 'it returns false'. Refute it at one input. -/
def dayPassedWrong : ChangeSpec := { name := "dayPassed", fn := fun _ => fun
  | [d1, d2, d3] => { results := [.lit (.bool false)], args := [d1, d2, d3] }
  | _ => none }
def DayPassedWrongFalsely : Prop := dayPassedRow.holds Try.pinned (OpenSpec.ofChange dayPassedWrong)

/-- 'packhorselaw03.DaySteps': WHATEVER THE INPUT: true; the input reads as it did. -/
def dayStepsSpec : ChangeSpec := { name := "daySteps", fn := fun _ => fun
  | [d1, d2] => { results := [.lit (.bool true)], args := [d1, d2] }
  | _ => none }
def dayStepsRow : OpenClaim := { program := "ytecomenbmdembaa", sum := "23f141886f9f22353611f9f849ac80379fa9261dff75d8db2ecfcbc835be228c", func := "packhorse/packhorselaw03.DaySteps", spec := "daySteps", unfollowed := true, recurses := true, apart := false }
def DayStepsSaid : Prop := dayStepsRow.holds Try.pinned (OpenSpec.ofChange dayStepsSpec)

/-- ITS FALSE NEIGHBOUR: 'it returns false'. Refute it at one input. -/
def dayStepsWrong : ChangeSpec := { name := "daySteps", fn := fun _ => fun
  | [d1, d2] => { results := [.lit (.bool false)], args := [d1, d2] }
  | _ => none }
def DayStepsWrongFalsely : Prop := dayStepsRow.holds Try.pinned (OpenSpec.ofChange dayStepsWrong)

/-- 'packhorselaw03.DayNames': WHATEVER THE INPUT: true; the input reads as it did. -/
def dayNamesSpec : ChangeSpec := { name := "dayNames", fn := fun _ => fun
  | [] => { results := [.lit (.bool true)], args := [] }
  | _ => none }
def dayNamesRow : OpenClaim := { program := "ytecomenbmdembaa", sum := "23f141886f9f22353611f9f849ac80379fa9261dff75d8db2ecfcbc835be228c", func := "packhorse/packhorselaw03.DayNames", spec := "dayNames", unfollowed := true, recurses := true, apart := false }
def DayNamesSaid : Prop := dayNamesRow.holds Try.pinned (OpenSpec.ofChange dayNamesSpec)

/-- ITS FALSE NEIGHBOUR: 'it returns false'. Refute it at one input. -/
def dayNamesWrong : ChangeSpec := { name := "dayNames", fn := fun _ => fun
  | [] => { results := [.lit (.bool false)], args := [] }
  | _ => none }
def DayNamesWrongFalsely : Prop := dayNamesRow.holds Try.pinned (OpenSpec.ofChange dayNamesWrong)

/- THE SECOND FORM. 'bulk': how many values and letters a reading holds, each counted each time it is reached (what is shared counts as often as it is met; a slice's spare places count too). A statement '..UptoSaid' is the law's where the arguments, and the package variables that the reading takes, are together of bulk at most 1048576: NARROWER than '..Said'. Prove '..Said' where nothing that the law and all that it calls make is longer than what came in: it says more and counts as full. Else prove '..UptoSaid'. A law counts once. -/
mutual
def uptoBulk {H : Type} : DataW H → Nat
  | .lit (.string bytes) => bytes.length + 1
  | .lit _ => 1
  | .nil => 1
  | .ptr d => uptoBulk d + 1
  | .slice elems spare => uptoBulkAll elems + uptoBulkAll spare + 1
  | .agg parts => uptoBulkAll parts + 1
  | .iface _ d => uptoBulk d + 1
  | .map entries => uptoBulkEntries entries + 1
  | .held _ => 1
def uptoBulkAll {H : Type} : List (DataW H) → Nat
  | [] => 0
  | d :: r => uptoBulk d + uptoBulkAll r
def uptoBulkEntries {H : Type} : List (Lit × DataW H) → Nat
  | [] => 0
  | x :: r => uptoBulkEntry x + uptoBulkEntries r
def uptoBulkEntry {H : Type} : Lit × DataW H → Nat
  | (.string bytes, d) => bytes.length + uptoBulk d + 1
  | (_, d) => uptoBulk d + 1
 end
def uptoSmall : (H : Type) → List (DataW H) → Bool := fun _ ds => decide (uptoBulkAll ds ≤ 1048576)
def OpenSpec.upto (s : _root_.Go.ChangeSpec) : _root_.Go.OpenSpec := { _root_.Go.OpenSpec.ofChange s with cond := some uptoSmall }

/-- 'packhorselaw03.DayDoors', WHERE WHAT IT READS IS OF BULK AT MOST 1048576: true; the input reads as it did. -/
def dayDoorsUptoRow : OpenClaim := { program := "ytecomenbmdembaa", sum := "23f141886f9f22353611f9f849ac80379fa9261dff75d8db2ecfcbc835be228c", func := "packhorse/packhorselaw03.DayDoors", spec := "dayDoors", unfollowed := true, recurses := true, apart := false, narrowed := true }
def DayDoorsUptoSaid : Prop := dayDoorsUptoRow.holds Try.pinned (OpenSpec.upto dayDoorsSpec)

/-- 'packhorselaw03.DayNext', WHERE WHAT IT READS IS OF BULK AT MOST 1048576: true; the input reads as it did. -/
def dayNextUptoRow : OpenClaim := { program := "ytecomenbmdembaa", sum := "23f141886f9f22353611f9f849ac80379fa9261dff75d8db2ecfcbc835be228c", func := "packhorse/packhorselaw03.DayNext", spec := "dayNext", unfollowed := true, recurses := true, apart := false, narrowed := true }
def DayNextUptoSaid : Prop := dayNextUptoRow.holds Try.pinned (OpenSpec.upto dayNextSpec)

/-- 'packhorselaw03.DayWeeks', WHERE WHAT IT READS IS OF BULK AT MOST 1048576: true; the input reads as it did. -/
def dayWeeksUptoRow : OpenClaim := { program := "ytecomenbmdembaa", sum := "23f141886f9f22353611f9f849ac80379fa9261dff75d8db2ecfcbc835be228c", func := "packhorse/packhorselaw03.DayWeeks", spec := "dayWeeks", unfollowed := true, recurses := true, apart := false, narrowed := true }
def DayWeeksUptoSaid : Prop := dayWeeksUptoRow.holds Try.pinned (OpenSpec.upto dayWeeksSpec)

/-- 'packhorselaw03.DayPassed', WHERE WHAT IT READS IS OF BULK AT MOST 1048576: true; the input reads as it did. -/
def dayPassedUptoRow : OpenClaim := { program := "ytecomenbmdembaa", sum := "23f141886f9f22353611f9f849ac80379fa9261dff75d8db2ecfcbc835be228c", func := "packhorse/packhorselaw03.DayPassed", spec := "dayPassed", unfollowed := true, recurses := true, apart := false, narrowed := true }
def DayPassedUptoSaid : Prop := dayPassedUptoRow.holds Try.pinned (OpenSpec.upto dayPassedSpec)

/-- 'packhorselaw03.DaySteps', WHERE WHAT IT READS IS OF BULK AT MOST 1048576: true; the input reads as it did. -/
def dayStepsUptoRow : OpenClaim := { program := "ytecomenbmdembaa", sum := "23f141886f9f22353611f9f849ac80379fa9261dff75d8db2ecfcbc835be228c", func := "packhorse/packhorselaw03.DaySteps", spec := "daySteps", unfollowed := true, recurses := true, apart := false, narrowed := true }
def DayStepsUptoSaid : Prop := dayStepsUptoRow.holds Try.pinned (OpenSpec.upto dayStepsSpec)

/-- 'packhorselaw03.DayNames', WHERE WHAT IT READS IS OF BULK AT MOST 1048576: true; the input reads as it did. -/
def dayNamesUptoRow : OpenClaim := { program := "ytecomenbmdembaa", sum := "23f141886f9f22353611f9f849ac80379fa9261dff75d8db2ecfcbc835be228c", func := "packhorse/packhorselaw03.DayNames", spec := "dayNames", unfollowed := true, recurses := true, apart := false, narrowed := true }
def DayNamesUptoSaid : Prop := dayNamesUptoRow.holds Try.pinned (OpenSpec.upto dayNamesSpec)

end Rows
end Go.Proofs.Ytecomenbmdembaa
