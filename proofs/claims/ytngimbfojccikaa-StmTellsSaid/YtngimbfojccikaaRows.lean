/-
  No cell of these rows narrows 'for every input' (looked for: loops, veiled, ifaces, maps, wideKeys, modest, calm, conditions, laid).
  DERIVED. THE GIVEN ROWS OF THIS SEAT. 7 by the template 'for every input the law returns true; each argument reads behind the call as it read before'; 0 by the template 'total and deterministic' (their statements: YtngimbfojccikaaTotals.lean).
  GIVEN WITH THE SEED: the statements are not yours to turn. If you find one false, say at which input.
  Laid BY PROGRAM, IN A SANDBOX (cutbox-rows.mjs): the forced cells as the released guide's own fill.sh prints them over the translation 4b707a008e4f214a… (all of the seat's roots in one cut). By AI agents, Wed Nov 11 2026. No macro, syntax, notation, axiom, sorry.
-/
import Derived.Test.YtngimbfojccikaaChecked
import GoSem.Claim
import GoSem.ClaimJoined
import GoSem.ClaimMapViews
import Derived.JoinedTies
import Derived.KernelRfl
namespace Go.Proofs.Ytngimbfojccikaa
/- THE CELL 'sum', in the pinned program and in every row, IS THE sha256 OF THE DUMP (.gsa) THAT YtngimbfojccikaaProg.lean LOADS. Nothing in Lean hashes anything: it is a label: what it is worth is what the hold of that sum in a sandbox is worth. -/
noncomputable def Try.pinned : Pinned := { name := "ytngimbfojccikaa", sum := "4b707a008e4f214a68cd0a442f7e078248d348055120c56978f64fd2408c9de8", checked := Try.checked }
namespace Rows
def none {H : Type} : Left H := { results := [], args := [] }

/-- 'foliatelaw19.StmTells': WHATEVER THE INPUT: true; the input reads as it did. -/
def stmTellsSpec : ChangeSpec := { name := "stmTells", fn := fun _ => fun
  | [d1, d2, d3] => { results := [.lit (.bool true)], args := [d1, d2, d3] }
  | _ => none }
def stmTellsRow : OpenClaim := { program := "ytngimbfojccikaa", sum := "4b707a008e4f214a68cd0a442f7e078248d348055120c56978f64fd2408c9de8", func := "foliate/foliatelaw19.StmTells", spec := "stmTells", inPlace := ["slices.overlaps[foliate/api.Pair]"], unfollowed := true, recurses := true, apart := false }
def StmTellsSaid : Prop := stmTellsRow.holds Try.pinned (OpenSpec.ofChange stmTellsSpec)

/-- ITS FALSE NEIGHBOUR: 'it returns false'. Refute it at one input. -/
def stmTellsWrong : ChangeSpec := { name := "stmTells", fn := fun _ => fun
  | [d1, d2, d3] => { results := [.lit (.bool false)], args := [d1, d2, d3] }
  | _ => none }
def StmTellsWrongFalsely : Prop := stmTellsRow.holds Try.pinned (OpenSpec.ofChange stmTellsWrong)

/-- 'foliatelaw19.StmLocks': WHATEVER THE INPUT: true; the input reads as it did. -/
def stmLocksSpec : ChangeSpec := { name := "stmLocks", fn := fun _ => fun
  | [d1, d2] => { results := [.lit (.bool true)], args := [d1, d2] }
  | _ => none }
def stmLocksRow : OpenClaim := { program := "ytngimbfojccikaa", sum := "4b707a008e4f214a68cd0a442f7e078248d348055120c56978f64fd2408c9de8", func := "foliate/foliatelaw19.StmLocks", spec := "stmLocks", inPlace := ["slices.overlaps[foliate/api.Pair]"], unfollowed := true, recurses := true, apart := false }
def StmLocksSaid : Prop := stmLocksRow.holds Try.pinned (OpenSpec.ofChange stmLocksSpec)

/-- ITS FALSE NEIGHBOUR: 'it returns false'. Refute it at one input. -/
def stmLocksWrong : ChangeSpec := { name := "stmLocks", fn := fun _ => fun
  | [d1, d2] => { results := [.lit (.bool false)], args := [d1, d2] }
  | _ => none }
def StmLocksWrongFalsely : Prop := stmLocksRow.holds Try.pinned (OpenSpec.ofChange stmLocksWrong)

/-- 'foliatelaw19.StmTries': WHATEVER THE INPUT: true; the input reads as it did. -/
def stmTriesSpec : ChangeSpec := { name := "stmTries", fn := fun _ => fun
  | [d1, d2, d3] => { results := [.lit (.bool true)], args := [d1, d2, d3] }
  | _ => none }
def stmTriesRow : OpenClaim := { program := "ytngimbfojccikaa", sum := "4b707a008e4f214a68cd0a442f7e078248d348055120c56978f64fd2408c9de8", func := "foliate/foliatelaw19.StmTries", spec := "stmTries", inPlace := ["slices.overlaps[foliate/api.Pair]"], unfollowed := true, recurses := true, apart := false }
def StmTriesSaid : Prop := stmTriesRow.holds Try.pinned (OpenSpec.ofChange stmTriesSpec)

/-- ITS FALSE NEIGHBOUR: 'it returns false'. Refute it at one input. -/
def stmTriesWrong : ChangeSpec := { name := "stmTries", fn := fun _ => fun
  | [d1, d2, d3] => { results := [.lit (.bool false)], args := [d1, d2, d3] }
  | _ => none }
def StmTriesWrongFalsely : Prop := stmTriesRow.holds Try.pinned (OpenSpec.ofChange stmTriesWrong)

/-- 'foliatelaw19.StmPick': WHATEVER THE INPUT: true; the input reads as it did. -/
def stmPickSpec : ChangeSpec := { name := "stmPick", fn := fun _ => fun
  | [d1, d2, d3] => { results := [.lit (.bool true)], args := [d1, d2, d3] }
  | _ => none }
def stmPickRow : OpenClaim := { program := "ytngimbfojccikaa", sum := "4b707a008e4f214a68cd0a442f7e078248d348055120c56978f64fd2408c9de8", func := "foliate/foliatelaw19.StmPick", spec := "stmPick", inPlace := ["slices.overlaps[foliate/api.Pair]"], unfollowed := true, recurses := true, apart := false }
def StmPickSaid : Prop := stmPickRow.holds Try.pinned (OpenSpec.ofChange stmPickSpec)

/-- ITS FALSE NEIGHBOUR: 'it returns false'. Refute it at one input. -/
def stmPickWrong : ChangeSpec := { name := "stmPick", fn := fun _ => fun
  | [d1, d2, d3] => { results := [.lit (.bool false)], args := [d1, d2, d3] }
  | _ => none }
def StmPickWrongFalsely : Prop := stmPickRow.holds Try.pinned (OpenSpec.ofChange stmPickWrong)

/-- 'foliatelaw19.StmReads': WHATEVER THE INPUT: true; the input reads as it did. -/
def stmReadsSpec : ChangeSpec := { name := "stmReads", fn := fun _ => fun
  | [d1, d2] => { results := [.lit (.bool true)], args := [d1, d2] }
  | _ => none }
def stmReadsRow : OpenClaim := { program := "ytngimbfojccikaa", sum := "4b707a008e4f214a68cd0a442f7e078248d348055120c56978f64fd2408c9de8", func := "foliate/foliatelaw19.StmReads", spec := "stmReads", inPlace := ["slices.overlaps[foliate/api.Pair]"], unfollowed := true, recurses := true, apart := false }
def StmReadsSaid : Prop := stmReadsRow.holds Try.pinned (OpenSpec.ofChange stmReadsSpec)

/-- ITS FALSE NEIGHBOUR: 'it returns false'. Refute it at one input. -/
def stmReadsWrong : ChangeSpec := { name := "stmReads", fn := fun _ => fun
  | [d1, d2] => { results := [.lit (.bool false)], args := [d1, d2] }
  | _ => none }
def StmReadsWrongFalsely : Prop := stmReadsRow.holds Try.pinned (OpenSpec.ofChange stmReadsWrong)

/-- 'foliatelaw19.StmOrder': WHATEVER THE INPUT: true; the input reads as it did. -/
def stmOrderSpec : ChangeSpec := { name := "stmOrder", fn := fun _ => fun
  | [d1, d2] => { results := [.lit (.bool true)], args := [d1, d2] }
  | _ => none }
def stmOrderRow : OpenClaim := { program := "ytngimbfojccikaa", sum := "4b707a008e4f214a68cd0a442f7e078248d348055120c56978f64fd2408c9de8", func := "foliate/foliatelaw19.StmOrder", spec := "stmOrder", inPlace := ["slices.overlaps[foliate/api.Pair]"], unfollowed := true, recurses := true, apart := false }
def StmOrderSaid : Prop := stmOrderRow.holds Try.pinned (OpenSpec.ofChange stmOrderSpec)

/-- ITS FALSE NEIGHBOUR: 'it returns false'. Refute it at one input. -/
def stmOrderWrong : ChangeSpec := { name := "stmOrder", fn := fun _ => fun
  | [d1, d2] => { results := [.lit (.bool false)], args := [d1, d2] }
  | _ => none }
def StmOrderWrongFalsely : Prop := stmOrderRow.holds Try.pinned (OpenSpec.ofChange stmOrderWrong)

/-- 'foliatelaw19.StmBegins': WHATEVER THE INPUT: true; the input reads as it did. -/
def stmBeginsSpec : ChangeSpec := { name := "stmBegins", fn := fun _ => fun
  | [d1, d2] => { results := [.lit (.bool true)], args := [d1, d2] }
  | _ => none }
def stmBeginsRow : OpenClaim := { program := "ytngimbfojccikaa", sum := "4b707a008e4f214a68cd0a442f7e078248d348055120c56978f64fd2408c9de8", func := "foliate/foliatelaw19.StmBegins", spec := "stmBegins", inPlace := ["slices.overlaps[foliate/api.Pair]"], unfollowed := true, recurses := true, apart := false }
def StmBeginsSaid : Prop := stmBeginsRow.holds Try.pinned (OpenSpec.ofChange stmBeginsSpec)

/-- ITS FALSE NEIGHBOUR: 'it returns false'. Refute it at one input. -/
def stmBeginsWrong : ChangeSpec := { name := "stmBegins", fn := fun _ => fun
  | [d1, d2] => { results := [.lit (.bool false)], args := [d1, d2] }
  | _ => none }
def StmBeginsWrongFalsely : Prop := stmBeginsRow.holds Try.pinned (OpenSpec.ofChange stmBeginsWrong)

/- THE SECOND FORM. 'bulk': how many values and letters a reading holds, each counted each time it is reached (what is shared counts as often as it is met; a slice's spare places count too). A statement '..UptoSaid' is the law's where the arguments, and the package variables that the reading takes, are together of bulk at most 1048576: NARROWER than '..Said'. Prove '..Said' where nothing that the law and all that it calls make is longer than what came in: it says more and counts as full. Else prove '..UptoSaid'. A law counts once. -/
mutual
def uptoBulk {H : Type} : DataW H → Nat
  | .lit (.string bytes) => bytes.length + 1
  | .lit _ => 1
  | .nil => 1
  | .ptr d => uptoBulk d + 1
  | .slice elems spare => uptoBulkAll elems + uptoBulkAll spare + 1
  | .agg parts => uptoBulkAll parts + 1
  | .iface _ d => uptoBulk d + 1
  | .map entries => uptoBulkEntries entries + 1
  | .held _ => 1
def uptoBulkAll {H : Type} : List (DataW H) → Nat
  | [] => 0
  | d :: r => uptoBulk d + uptoBulkAll r
def uptoBulkEntries {H : Type} : List (Lit × DataW H) → Nat
  | [] => 0
  | x :: r => uptoBulkEntry x + uptoBulkEntries r
def uptoBulkEntry {H : Type} : Lit × DataW H → Nat
  | (.string bytes, d) => bytes.length + uptoBulk d + 1
  | (_, d) => uptoBulk d + 1
 end
def uptoSmall : (H : Type) → List (DataW H) → Bool := fun _ ds => decide (uptoBulkAll ds ≤ 1048576)
def OpenSpec.upto (s : _root_.Go.ChangeSpec) : _root_.Go.OpenSpec := { _root_.Go.OpenSpec.ofChange s with cond := some uptoSmall }

/-- 'foliatelaw19.StmTells', WHERE WHAT IT READS IS OF BULK AT MOST 1048576: true; the input reads as it did. -/
def stmTellsUptoRow : OpenClaim := { program := "ytngimbfojccikaa", sum := "4b707a008e4f214a68cd0a442f7e078248d348055120c56978f64fd2408c9de8", func := "foliate/foliatelaw19.StmTells", spec := "stmTells", inPlace := ["slices.overlaps[foliate/api.Pair]"], unfollowed := true, recurses := true, apart := false, narrowed := true }
def StmTellsUptoSaid : Prop := stmTellsUptoRow.holds Try.pinned (OpenSpec.upto stmTellsSpec)

/-- 'foliatelaw19.StmLocks', WHERE WHAT IT READS IS OF BULK AT MOST 1048576: true; the input reads as it did. -/
def stmLocksUptoRow : OpenClaim := { program := "ytngimbfojccikaa", sum := "4b707a008e4f214a68cd0a442f7e078248d348055120c56978f64fd2408c9de8", func := "foliate/foliatelaw19.StmLocks", spec := "stmLocks", inPlace := ["slices.overlaps[foliate/api.Pair]"], unfollowed := true, recurses := true, apart := false, narrowed := true }
def StmLocksUptoSaid : Prop := stmLocksUptoRow.holds Try.pinned (OpenSpec.upto stmLocksSpec)

/-- 'foliatelaw19.StmTries', WHERE WHAT IT READS IS OF BULK AT MOST 1048576: true; the input reads as it did. -/
def stmTriesUptoRow : OpenClaim := { program := "ytngimbfojccikaa", sum := "4b707a008e4f214a68cd0a442f7e078248d348055120c56978f64fd2408c9de8", func := "foliate/foliatelaw19.StmTries", spec := "stmTries", inPlace := ["slices.overlaps[foliate/api.Pair]"], unfollowed := true, recurses := true, apart := false, narrowed := true }
def StmTriesUptoSaid : Prop := stmTriesUptoRow.holds Try.pinned (OpenSpec.upto stmTriesSpec)

/-- 'foliatelaw19.StmPick', WHERE WHAT IT READS IS OF BULK AT MOST 1048576: true; the input reads as it did. -/
def stmPickUptoRow : OpenClaim := { program := "ytngimbfojccikaa", sum := "4b707a008e4f214a68cd0a442f7e078248d348055120c56978f64fd2408c9de8", func := "foliate/foliatelaw19.StmPick", spec := "stmPick", inPlace := ["slices.overlaps[foliate/api.Pair]"], unfollowed := true, recurses := true, apart := false, narrowed := true }
def StmPickUptoSaid : Prop := stmPickUptoRow.holds Try.pinned (OpenSpec.upto stmPickSpec)

/-- 'foliatelaw19.StmReads', WHERE WHAT IT READS IS OF BULK AT MOST 1048576: true; the input reads as it did. -/
def stmReadsUptoRow : OpenClaim := { program := "ytngimbfojccikaa", sum := "4b707a008e4f214a68cd0a442f7e078248d348055120c56978f64fd2408c9de8", func := "foliate/foliatelaw19.StmReads", spec := "stmReads", inPlace := ["slices.overlaps[foliate/api.Pair]"], unfollowed := true, recurses := true, apart := false, narrowed := true }
def StmReadsUptoSaid : Prop := stmReadsUptoRow.holds Try.pinned (OpenSpec.upto stmReadsSpec)

/-- 'foliatelaw19.StmOrder', WHERE WHAT IT READS IS OF BULK AT MOST 1048576: true; the input reads as it did. -/
def stmOrderUptoRow : OpenClaim := { program := "ytngimbfojccikaa", sum := "4b707a008e4f214a68cd0a442f7e078248d348055120c56978f64fd2408c9de8", func := "foliate/foliatelaw19.StmOrder", spec := "stmOrder", inPlace := ["slices.overlaps[foliate/api.Pair]"], unfollowed := true, recurses := true, apart := false, narrowed := true }
def StmOrderUptoSaid : Prop := stmOrderUptoRow.holds Try.pinned (OpenSpec.upto stmOrderSpec)

/-- 'foliatelaw19.StmBegins', WHERE WHAT IT READS IS OF BULK AT MOST 1048576: true; the input reads as it did. -/
def stmBeginsUptoRow : OpenClaim := { program := "ytngimbfojccikaa", sum := "4b707a008e4f214a68cd0a442f7e078248d348055120c56978f64fd2408c9de8", func := "foliate/foliatelaw19.StmBegins", spec := "stmBegins", inPlace := ["slices.overlaps[foliate/api.Pair]"], unfollowed := true, recurses := true, apart := false, narrowed := true }
def StmBeginsUptoSaid : Prop := stmBeginsUptoRow.holds Try.pinned (OpenSpec.upto stmBeginsSpec)

end Rows
end Go.Proofs.Ytngimbfojccikaa
