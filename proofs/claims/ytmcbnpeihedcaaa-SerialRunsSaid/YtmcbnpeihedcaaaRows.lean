/-
  No cell of these rows narrows 'for every input' (looked for: loops, veiled, ifaces, maps, wideKeys, modest, calm, conditions, laid).
  DERIVED. THE GIVEN ROWS OF THIS SEAT. 5 by the template 'for every input the law returns true; each argument reads behind the call as it read before'; 0 by the template 'total and deterministic' (their statements: YtmcbnpeihedcaaaTotals.lean).
  GIVEN WITH THE SEED: the statements are not yours to turn. If you find one false, say at which input.
  Laid BY PROGRAM, IN A SANDBOX (cutbox-rows.mjs): the forced cells as the released guide's own fill.sh prints them over the translation 4c3ddc78ab685fec… (all of the seat's roots in one cut). By AI agents, Wed Nov 11 2026. No macro, syntax, notation, axiom, sorry.
-/
import Derived.Test.YtmcbnpeihedcaaaChecked
import GoSem.Claim
import GoSem.ClaimJoined
import GoSem.ClaimMapViews
import Derived.JoinedTies
import Derived.KernelRfl
namespace Go.Proofs.Ytmcbnpeihedcaaa
/- THE CELL 'sum', in the pinned program and in every row, IS THE sha256 OF THE DUMP (.gsa) THAT YtmcbnpeihedcaaaProg.lean LOADS. Nothing in Lean hashes anything: it is a label: what it is worth is what the hold of that sum in a sandbox is worth. -/
noncomputable def Try.pinned : Pinned := { name := "ytmcbnpeihedcaaa", sum := "4c3ddc78ab685fec6531dd4ea05b93bbc518cd59bb67db921eb87d3b0fb7a56b", checked := Try.checked }
namespace Rows
def none {H : Type} : Left H := { results := [], args := [] }

/-- 'foliatelaw20.SerialDone': WHATEVER THE INPUT: true; the input reads as it did. -/
def serialDoneSpec : ChangeSpec := { name := "serialDone", fn := fun _ => fun
  | [d1, d2, d3] => { results := [.lit (.bool true)], args := [d1, d2, d3] }
  | _ => none }
def serialDoneRow : OpenClaim := { program := "ytmcbnpeihedcaaa", sum := "4c3ddc78ab685fec6531dd4ea05b93bbc518cd59bb67db921eb87d3b0fb7a56b", func := "foliate/foliatelaw20.SerialDone", spec := "serialDone", unfollowed := true, recurses := true, apart := false }
def SerialDoneSaid : Prop := serialDoneRow.holds Try.pinned (OpenSpec.ofChange serialDoneSpec)

/-- ITS FALSE NEIGHBOUR: 'it returns false'. Refute it at one input. -/
def serialDoneWrong : ChangeSpec := { name := "serialDone", fn := fun _ => fun
  | [d1, d2, d3] => { results := [.lit (.bool false)], args := [d1, d2, d3] }
  | _ => none }
def SerialDoneWrongFalsely : Prop := serialDoneRow.holds Try.pinned (OpenSpec.ofChange serialDoneWrong)

/-- 'foliatelaw20.SerialSteps': WHATEVER THE INPUT: true; the input reads as it did. -/
def serialStepsSpec : ChangeSpec := { name := "serialSteps", fn := fun _ => fun
  | [d1, d2, d3, d4] => { results := [.lit (.bool true)], args := [d1, d2, d3, d4] }
  | _ => none }
def serialStepsRow : OpenClaim := { program := "ytmcbnpeihedcaaa", sum := "4c3ddc78ab685fec6531dd4ea05b93bbc518cd59bb67db921eb87d3b0fb7a56b", func := "foliate/foliatelaw20.SerialSteps", spec := "serialSteps", unfollowed := true, recurses := true, apart := false }
def SerialStepsSaid : Prop := serialStepsRow.holds Try.pinned (OpenSpec.ofChange serialStepsSpec)

/-- ITS FALSE NEIGHBOUR: 'it returns false'. Refute it at one input. -/
def serialStepsWrong : ChangeSpec := { name := "serialSteps", fn := fun _ => fun
  | [d1, d2, d3, d4] => { results := [.lit (.bool false)], args := [d1, d2, d3, d4] }
  | _ => none }
def SerialStepsWrongFalsely : Prop := serialStepsRow.holds Try.pinned (OpenSpec.ofChange serialStepsWrong)

/-- 'foliatelaw20.SerialNone': WHATEVER THE INPUT: true; the input reads as it did. -/
def serialNoneSpec : ChangeSpec := { name := "serialNone", fn := fun _ => fun
  | [d1, d2, d3] => { results := [.lit (.bool true)], args := [d1, d2, d3] }
  | _ => none }
def serialNoneRow : OpenClaim := { program := "ytmcbnpeihedcaaa", sum := "4c3ddc78ab685fec6531dd4ea05b93bbc518cd59bb67db921eb87d3b0fb7a56b", func := "foliate/foliatelaw20.SerialNone", spec := "serialNone", unfollowed := true, recurses := true, apart := false }
def SerialNoneSaid : Prop := serialNoneRow.holds Try.pinned (OpenSpec.ofChange serialNoneSpec)

/-- ITS FALSE NEIGHBOUR: 'it returns false'. Refute it at one input. -/
def serialNoneWrong : ChangeSpec := { name := "serialNone", fn := fun _ => fun
  | [d1, d2, d3] => { results := [.lit (.bool false)], args := [d1, d2, d3] }
  | _ => none }
def SerialNoneWrongFalsely : Prop := serialNoneRow.holds Try.pinned (OpenSpec.ofChange serialNoneWrong)

/-- 'foliatelaw20.SerialRuns': WHATEVER THE INPUT: true; the input reads as it did. -/
def serialRunsSpec : ChangeSpec := { name := "serialRuns", fn := fun _ => fun
  | [d1, d2] => { results := [.lit (.bool true)], args := [d1, d2] }
  | _ => none }
def serialRunsRow : OpenClaim := { program := "ytmcbnpeihedcaaa", sum := "4c3ddc78ab685fec6531dd4ea05b93bbc518cd59bb67db921eb87d3b0fb7a56b", func := "foliate/foliatelaw20.SerialRuns", spec := "serialRuns", inPlace := ["slices.overlaps[foliate/api.Pair]"], unfollowed := true, recurses := true, apart := false }
def SerialRunsSaid : Prop := serialRunsRow.holds Try.pinned (OpenSpec.ofChange serialRunsSpec)

/-- ITS FALSE NEIGHBOUR: 'it returns false'. Refute it at one input. -/
def serialRunsWrong : ChangeSpec := { name := "serialRuns", fn := fun _ => fun
  | [d1, d2] => { results := [.lit (.bool false)], args := [d1, d2] }
  | _ => none }
def SerialRunsWrongFalsely : Prop := serialRunsRow.holds Try.pinned (OpenSpec.ofChange serialRunsWrong)

/-- 'foliatelaw20.SerialNow': WHATEVER THE INPUT: true; the input reads as it did. -/
def serialNowSpec : ChangeSpec := { name := "serialNow", fn := fun _ => fun
  | [d1, d2] => { results := [.lit (.bool true)], args := [d1, d2] }
  | _ => none }
def serialNowRow : OpenClaim := { program := "ytmcbnpeihedcaaa", sum := "4c3ddc78ab685fec6531dd4ea05b93bbc518cd59bb67db921eb87d3b0fb7a56b", func := "foliate/foliatelaw20.SerialNow", spec := "serialNow", inPlace := ["slices.overlaps[foliate/api.Pair]"], unfollowed := true, recurses := true, apart := false }
def SerialNowSaid : Prop := serialNowRow.holds Try.pinned (OpenSpec.ofChange serialNowSpec)

/-- ITS FALSE NEIGHBOUR: 'it returns false'. Refute it at one input. -/
def serialNowWrong : ChangeSpec := { name := "serialNow", fn := fun _ => fun
  | [d1, d2] => { results := [.lit (.bool false)], args := [d1, d2] }
  | _ => none }
def SerialNowWrongFalsely : Prop := serialNowRow.holds Try.pinned (OpenSpec.ofChange serialNowWrong)

/- THE SECOND FORM. 'bulk': how many values and letters a reading holds, each counted each time it is reached (what is shared counts as often as it is met; a slice's spare places count too). A statement '..UptoSaid' is the law's where the arguments, and the package variables that the reading takes, are together of bulk at most 1048576: NARROWER than '..Said'. Prove '..Said' where nothing that the law and all that it calls make is longer than what came in: it says more and counts as full. Else prove '..UptoSaid'. A law counts once. -/
mutual
def uptoBulk {H : Type} : DataW H → Nat
  | .lit (.string bytes) => bytes.length + 1
  | .lit _ => 1
  | .nil => 1
  | .ptr d => uptoBulk d + 1
  | .slice elems spare => uptoBulkAll elems + uptoBulkAll spare + 1
  | .agg parts => uptoBulkAll parts + 1
  | .iface _ d => uptoBulk d + 1
  | .map entries => uptoBulkEntries entries + 1
  | .held _ => 1
def uptoBulkAll {H : Type} : List (DataW H) → Nat
  | [] => 0
  | d :: r => uptoBulk d + uptoBulkAll r
def uptoBulkEntries {H : Type} : List (Lit × DataW H) → Nat
  | [] => 0
  | x :: r => uptoBulkEntry x + uptoBulkEntries r
def uptoBulkEntry {H : Type} : Lit × DataW H → Nat
  | (.string bytes, d) => bytes.length + uptoBulk d + 1
  | (_, d) => uptoBulk d + 1
 end
def uptoSmall : (H : Type) → List (DataW H) → Bool := fun _ ds => decide (uptoBulkAll ds ≤ 1048576)
def OpenSpec.upto (s : _root_.Go.ChangeSpec) : _root_.Go.OpenSpec := { _root_.Go.OpenSpec.ofChange s with cond := some uptoSmall }

/-- 'foliatelaw20.SerialDone', WHERE WHAT IT READS IS OF BULK AT MOST 1048576: true; the input reads as it did. -/
def serialDoneUptoRow : OpenClaim := { program := "ytmcbnpeihedcaaa", sum := "4c3ddc78ab685fec6531dd4ea05b93bbc518cd59bb67db921eb87d3b0fb7a56b", func := "foliate/foliatelaw20.SerialDone", spec := "serialDone", unfollowed := true, recurses := true, apart := false, narrowed := true }
def SerialDoneUptoSaid : Prop := serialDoneUptoRow.holds Try.pinned (OpenSpec.upto serialDoneSpec)

/-- 'foliatelaw20.SerialSteps', WHERE WHAT IT READS IS OF BULK AT MOST 1048576: true; the input reads as it did. -/
def serialStepsUptoRow : OpenClaim := { program := "ytmcbnpeihedcaaa", sum := "4c3ddc78ab685fec6531dd4ea05b93bbc518cd59bb67db921eb87d3b0fb7a56b", func := "foliate/foliatelaw20.SerialSteps", spec := "serialSteps", unfollowed := true, recurses := true, apart := false, narrowed := true }
def SerialStepsUptoSaid : Prop := serialStepsUptoRow.holds Try.pinned (OpenSpec.upto serialStepsSpec)

/-- 'foliatelaw20.SerialNone', WHERE WHAT IT READS IS OF BULK AT MOST 1048576: true; the input reads as it did. -/
def serialNoneUptoRow : OpenClaim := { program := "ytmcbnpeihedcaaa", sum := "4c3ddc78ab685fec6531dd4ea05b93bbc518cd59bb67db921eb87d3b0fb7a56b", func := "foliate/foliatelaw20.SerialNone", spec := "serialNone", unfollowed := true, recurses := true, apart := false, narrowed := true }
def SerialNoneUptoSaid : Prop := serialNoneUptoRow.holds Try.pinned (OpenSpec.upto serialNoneSpec)

/-- 'foliatelaw20.SerialRuns', WHERE WHAT IT READS IS OF BULK AT MOST 1048576: true; the input reads as it did. -/
def serialRunsUptoRow : OpenClaim := { program := "ytmcbnpeihedcaaa", sum := "4c3ddc78ab685fec6531dd4ea05b93bbc518cd59bb67db921eb87d3b0fb7a56b", func := "foliate/foliatelaw20.SerialRuns", spec := "serialRuns", inPlace := ["slices.overlaps[foliate/api.Pair]"], unfollowed := true, recurses := true, apart := false, narrowed := true }
def SerialRunsUptoSaid : Prop := serialRunsUptoRow.holds Try.pinned (OpenSpec.upto serialRunsSpec)

/-- 'foliatelaw20.SerialNow', WHERE WHAT IT READS IS OF BULK AT MOST 1048576: true; the input reads as it did. -/
def serialNowUptoRow : OpenClaim := { program := "ytmcbnpeihedcaaa", sum := "4c3ddc78ab685fec6531dd4ea05b93bbc518cd59bb67db921eb87d3b0fb7a56b", func := "foliate/foliatelaw20.SerialNow", spec := "serialNow", inPlace := ["slices.overlaps[foliate/api.Pair]"], unfollowed := true, recurses := true, apart := false, narrowed := true }
def SerialNowUptoSaid : Prop := serialNowUptoRow.holds Try.pinned (OpenSpec.upto serialNowSpec)

end Rows
end Go.Proofs.Ytmcbnpeihedcaaa
