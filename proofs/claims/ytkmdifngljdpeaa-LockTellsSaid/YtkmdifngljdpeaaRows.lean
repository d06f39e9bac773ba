/-
  No cell of these rows narrows 'for every input' (looked for: loops, veiled, ifaces, maps, wideKeys, modest, calm, conditions, laid).
  DERIVED. THE GIVEN ROWS OF THIS SEAT. 7 by the template 'for every input the law returns true; each argument reads behind the call as it read before'; 0 by the template 'total and deterministic' (their statements: YtkmdifngljdpeaaTotals.lean).
  GIVEN WITH THE SEED: the statements are not yours to turn. If you find one false, say at which input.
  Laid BY PROGRAM, IN A SANDBOX (cutbox-rows.mjs): the forced cells as the released guide's own fill.sh prints them over the translation b6f522b7747936e0… (all of the seat's roots in one cut). By AI agents, Wed Nov 11 2026. No macro, syntax, notation, axiom, sorry.
-/
import Derived.Test.YtkmdifngljdpeaaChecked
import GoSem.Claim
import GoSem.ClaimJoined
import GoSem.ClaimMapViews
import Derived.JoinedTies
import Derived.KernelRfl
namespace Go.Proofs.Ytkmdifngljdpeaa
/- THE CELL 'sum', in the pinned program and in every row, IS THE sha256 OF THE DUMP (.gsa) THAT YtkmdifngljdpeaaProg.lean LOADS. Nothing in Lean hashes anything: it is a label: what it is worth is what the hold of that sum in a sandbox is worth. -/
noncomputable def Try.pinned : Pinned := { name := "ytkmdifngljdpeaa", sum := "b6f522b7747936e0cadbb09ad357af726f43ef5ed352a84aa803c584260cd5fb", checked := Try.checked }
namespace Rows
def none {H : Type} : Left H := { results := [], args := [] }

/-- 'foliatelaw18.LockTells': WHATEVER THE INPUT: true; the input reads as it did. -/
def lockTellsSpec : ChangeSpec := { name := "lockTells", fn := fun _ => fun
  | [d1, d2, d3, d4, d5] => { results := [.lit (.bool true)], args := [d1, d2, d3, d4, d5] }
  | _ => none }
def lockTellsRow : OpenClaim := { program := "ytkmdifngljdpeaa", sum := "b6f522b7747936e0cadbb09ad357af726f43ef5ed352a84aa803c584260cd5fb", func := "foliate/foliatelaw18.LockTells", spec := "lockTells", unfollowed := true, recurses := true, apart := false }
def LockTellsSaid : Prop := lockTellsRow.holds Try.pinned (OpenSpec.ofChange lockTellsSpec)

/-- ITS FALSE NEIGHBOUR: 'it returns false'. Refute it at one input. -/
def lockTellsWrong : ChangeSpec := { name := "lockTells", fn := fun _ => fun
  | [d1, d2, d3, d4, d5] => { results := [.lit (.bool false)], args := [d1, d2, d3, d4, d5] }
  | _ => none }
def LockTellsWrongFalsely : Prop := lockTellsRow.holds Try.pinned (OpenSpec.ofChange lockTellsWrong)

/-- 'foliatelaw18.LockHeld': WHATEVER THE INPUT: true; the input reads as it did. -/
def lockHeldSpec : ChangeSpec := { name := "lockHeld", fn := fun _ => fun
  | [d1, d2, d3, d4, d5] => { results := [.lit (.bool true)], args := [d1, d2, d3, d4, d5] }
  | _ => none }
def lockHeldRow : OpenClaim := { program := "ytkmdifngljdpeaa", sum := "b6f522b7747936e0cadbb09ad357af726f43ef5ed352a84aa803c584260cd5fb", func := "foliate/foliatelaw18.LockHeld", spec := "lockHeld", unfollowed := true, recurses := true, apart := false }
def LockHeldSaid : Prop := lockHeldRow.holds Try.pinned (OpenSpec.ofChange lockHeldSpec)

/-- ITS FALSE NEIGHBOUR: 'it returns false'. Refute it at one input. -/
def lockHeldWrong : ChangeSpec := { name := "lockHeld", fn := fun _ => fun
  | [d1, d2, d3, d4, d5] => { results := [.lit (.bool false)], args := [d1, d2, d3, d4, d5] }
  | _ => none }
def LockHeldWrongFalsely : Prop := lockHeldRow.holds Try.pinned (OpenSpec.ofChange lockHeldWrong)

/-- 'foliatelaw18.LockBack': WHATEVER THE INPUT: true; the input reads as it did. -/
def lockBackSpec : ChangeSpec := { name := "lockBack", fn := fun _ => fun
  | [d1, d2, d3] => { results := [.lit (.bool true)], args := [d1, d2, d3] }
  | _ => none }
def lockBackRow : OpenClaim := { program := "ytkmdifngljdpeaa", sum := "b6f522b7747936e0cadbb09ad357af726f43ef5ed352a84aa803c584260cd5fb", func := "foliate/foliatelaw18.LockBack", spec := "lockBack", unfollowed := true, recurses := true, apart := false }
def LockBackSaid : Prop := lockBackRow.holds Try.pinned (OpenSpec.ofChange lockBackSpec)

/-- ITS FALSE NEIGHBOUR: 'it returns false'. Refute it at one input. -/
def lockBackWrong : ChangeSpec := { name := "lockBack", fn := fun _ => fun
  | [d1, d2, d3] => { results := [.lit (.bool false)], args := [d1, d2, d3] }
  | _ => none }
def LockBackWrongFalsely : Prop := lockBackRow.holds Try.pinned (OpenSpec.ofChange lockBackWrong)

/-- 'foliatelaw18.LockStays': WHATEVER THE INPUT: true; the input reads as it did. -/
def lockStaysSpec : ChangeSpec := { name := "lockStays", fn := fun _ => fun
  | [d1, d2, d3, d4, d5] => { results := [.lit (.bool true)], args := [d1, d2, d3, d4, d5] }
  | _ => none }
def lockStaysRow : OpenClaim := { program := "ytkmdifngljdpeaa", sum := "b6f522b7747936e0cadbb09ad357af726f43ef5ed352a84aa803c584260cd5fb", func := "foliate/foliatelaw18.LockStays", spec := "lockStays", unfollowed := true, recurses := true, apart := false }
def LockStaysSaid : Prop := lockStaysRow.holds Try.pinned (OpenSpec.ofChange lockStaysSpec)

/-- ITS FALSE NEIGHBOUR: 'it returns false'. Refute it at one input. -/
def lockStaysWrong : ChangeSpec := { name := "lockStays", fn := fun _ => fun
  | [d1, d2, d3, d4, d5] => { results := [.lit (.bool false)], args := [d1, d2, d3, d4, d5] }
  | _ => none }
def LockStaysWrongFalsely : Prop := lockStaysRow.holds Try.pinned (OpenSpec.ofChange lockStaysWrong)

/-- 'foliatelaw18.LockSees': WHATEVER THE INPUT: true; the input reads as it did. -/
def lockSeesSpec : ChangeSpec := { name := "lockSees", fn := fun _ => fun
  | [d1, d2, d3, d4, d5, d6] => { results := [.lit (.bool true)], args := [d1, d2, d3, d4, d5, d6] }
  | _ => none }
def lockSeesRow : OpenClaim := { program := "ytkmdifngljdpeaa", sum := "b6f522b7747936e0cadbb09ad357af726f43ef5ed352a84aa803c584260cd5fb", func := "foliate/foliatelaw18.LockSees", spec := "lockSees", unfollowed := true, recurses := true, apart := false }
def LockSeesSaid : Prop := lockSeesRow.holds Try.pinned (OpenSpec.ofChange lockSeesSpec)

/-- ITS FALSE NEIGHBOUR: 'it returns false'. Refute it at one input. -/
def lockSeesWrong : ChangeSpec := { name := "lockSees", fn := fun _ => fun
  | [d1, d2, d3, d4, d5, d6] => { results := [.lit (.bool false)], args := [d1, d2, d3, d4, d5, d6] }
  | _ => none }
def LockSeesWrongFalsely : Prop := lockSeesRow.holds Try.pinned (OpenSpec.ofChange lockSeesWrong)

/-- 'foliatelaw18.LockClock': WHATEVER THE INPUT: true; the input reads as it did. -/
def lockClockSpec : ChangeSpec := { name := "lockClock", fn := fun _ => fun
  | [d1, d2] => { results := [.lit (.bool true)], args := [d1, d2] }
  | _ => none }
def lockClockRow : OpenClaim := { program := "ytkmdifngljdpeaa", sum := "b6f522b7747936e0cadbb09ad357af726f43ef5ed352a84aa803c584260cd5fb", func := "foliate/foliatelaw18.LockClock", spec := "lockClock", unfollowed := true, recurses := true, apart := false }
def LockClockSaid : Prop := lockClockRow.holds Try.pinned (OpenSpec.ofChange lockClockSpec)

/-- ITS FALSE NEIGHBOUR: 'it returns false'. Refute it at one input. -/
def lockClockWrong : ChangeSpec := { name := "lockClock", fn := fun _ => fun
  | [d1, d2] => { results := [.lit (.bool false)], args := [d1, d2] }
  | _ => none }
def LockClockWrongFalsely : Prop := lockClockRow.holds Try.pinned (OpenSpec.ofChange lockClockWrong)

/-- 'foliatelaw18.LockApart': WHATEVER THE INPUT: true; the input reads as it did. -/
def lockApartSpec : ChangeSpec := { name := "lockApart", fn := fun _ => fun
  | [d1, d2, d3, d4, d5] => { results := [.lit (.bool true)], args := [d1, d2, d3, d4, d5] }
  | _ => none }
def lockApartRow : OpenClaim := { program := "ytkmdifngljdpeaa", sum := "b6f522b7747936e0cadbb09ad357af726f43ef5ed352a84aa803c584260cd5fb", func := "foliate/foliatelaw18.LockApart", spec := "lockApart", unfollowed := true, recurses := true, apart := false }
def LockApartSaid : Prop := lockApartRow.holds Try.pinned (OpenSpec.ofChange lockApartSpec)

/-- ITS FALSE NEIGHBOUR: 'it returns false'. Refute it at one input. -/
def lockApartWrong : ChangeSpec := { name := "lockApart", fn := fun _ => fun
  | [d1, d2, d3, d4, d5] => { results := [.lit (.bool false)], args := [d1, d2, d3, d4, d5] }
  | _ => none }
def LockApartWrongFalsely : Prop := lockApartRow.holds Try.pinned (OpenSpec.ofChange lockApartWrong)

/- THE SECOND FORM. 'bulk': how many values and letters a reading holds, each counted each time it is reached (what is shared counts as often as it is met; a slice's spare places count too). A statement '..UptoSaid' is the law's where the arguments, and the package variables that the reading takes, are together of bulk at most 1048576: NARROWER than '..Said'. Prove '..Said' where nothing that the law and all that it calls make is longer than what came in: it says more and counts as full. Else prove '..UptoSaid'. A law counts once. -/
mutual
def uptoBulk {H : Type} : DataW H → Nat
  | .lit (.string bytes) => bytes.length + 1
  | .lit _ => 1
  | .nil => 1
  | .ptr d => uptoBulk d + 1
  | .slice elems spare => uptoBulkAll elems + uptoBulkAll spare + 1
  | .agg parts => uptoBulkAll parts + 1
  | .iface _ d => uptoBulk d + 1
  | .map entries => uptoBulkEntries entries + 1
  | .held _ => 1
def uptoBulkAll {H : Type} : List (DataW H) → Nat
  | [] => 0
  | d :: r => uptoBulk d + uptoBulkAll r
def uptoBulkEntries {H : Type} : List (Lit × DataW H) → Nat
  | [] => 0
  | x :: r => uptoBulkEntry x + uptoBulkEntries r
def uptoBulkEntry {H : Type} : Lit × DataW H → Nat
  | (.string bytes, d) => bytes.length + uptoBulk d + 1
  | (_, d) => uptoBulk d + 1
 end
def uptoSmall : (H : Type) → List (DataW H) → Bool := fun _ ds => decide (uptoBulkAll ds ≤ 1048576)
def OpenSpec.upto (s : _root_.Go.ChangeSpec) : _root_.Go.OpenSpec := { _root_.Go.OpenSpec.ofChange s with cond := some uptoSmall }

/-- 'foliatelaw18.LockTells', WHERE WHAT IT READS IS OF BULK AT MOST 1048576: true; the input reads as it did. -/
def lockTellsUptoRow : OpenClaim := { program := "ytkmdifngljdpeaa", sum := "b6f522b7747936e0cadbb09ad357af726f43ef5ed352a84aa803c584260cd5fb", func := "foliate/foliatelaw18.LockTells", spec := "lockTells", unfollowed := true, recurses := true, apart := false, narrowed := true }
def LockTellsUptoSaid : Prop := lockTellsUptoRow.holds Try.pinned (OpenSpec.upto lockTellsSpec)

/-- 'foliatelaw18.LockHeld', WHERE WHAT IT READS IS OF BULK AT MOST 1048576: true; the input reads as it did. -/
def lockHeldUptoRow : OpenClaim := { program := "ytkmdifngljdpeaa", sum := "b6f522b7747936e0cadbb09ad357af726f43ef5ed352a84aa803c584260cd5fb", func := "foliate/foliatelaw18.LockHeld", spec := "lockHeld", unfollowed := true, recurses := true, apart := false, narrowed := true }
def LockHeldUptoSaid : Prop := lockHeldUptoRow.holds Try.pinned (OpenSpec.upto lockHeldSpec)

/-- 'foliatelaw18.LockBack', WHERE WHAT IT READS IS OF BULK AT MOST 1048576: true; the input reads as it did. -/
def lockBackUptoRow : OpenClaim := { program := "ytkmdifngljdpeaa", sum := "b6f522b7747936e0cadbb09ad357af726f43ef5ed352a84aa803c584260cd5fb", func := "foliate/foliatelaw18.LockBack", spec := "lockBack", unfollowed := true, recurses := true, apart := false, narrowed := true }
def LockBackUptoSaid : Prop := lockBackUptoRow.holds Try.pinned (OpenSpec.upto lockBackSpec)

/-- 'foliatelaw18.LockStays', WHERE WHAT IT READS IS OF BULK AT MOST 1048576: true; the input reads as it did. -/
def lockStaysUptoRow : OpenClaim := { program := "ytkmdifngljdpeaa", sum := "b6f522b7747936e0cadbb09ad357af726f43ef5ed352a84aa803c584260cd5fb", func := "foliate/foliatelaw18.LockStays", spec := "lockStays", unfollowed := true, recurses := true, apart := false, narrowed := true }
def LockStaysUptoSaid : Prop := lockStaysUptoRow.holds Try.pinned (OpenSpec.upto lockStaysSpec)

/-- 'foliatelaw18.LockSees', WHERE WHAT IT READS IS OF BULK AT MOST 1048576: true; the input reads as it did. -/
def lockSeesUptoRow : OpenClaim := { program := "ytkmdifngljdpeaa", sum := "b6f522b7747936e0cadbb09ad357af726f43ef5ed352a84aa803c584260cd5fb", func := "foliate/foliatelaw18.LockSees", spec := "lockSees", unfollowed := true, recurses := true, apart := false, narrowed := true }
def LockSeesUptoSaid : Prop := lockSeesUptoRow.holds Try.pinned (OpenSpec.upto lockSeesSpec)

/-- 'foliatelaw18.LockClock', WHERE WHAT IT READS IS OF BULK AT MOST 1048576: true; the input reads as it did. -/
def lockClockUptoRow : OpenClaim := { program := "ytkmdifngljdpeaa", sum := "b6f522b7747936e0cadbb09ad357af726f43ef5ed352a84aa803c584260cd5fb", func := "foliate/foliatelaw18.LockClock", spec := "lockClock", unfollowed := true, recurses := true, apart := false, narrowed := true }
def LockClockUptoSaid : Prop := lockClockUptoRow.holds Try.pinned (OpenSpec.upto lockClockSpec)

/-- 'foliatelaw18.LockApart', WHERE WHAT IT READS IS OF BULK AT MOST 1048576: true; the input reads as it did. -/
def lockApartUptoRow : OpenClaim := { program := "ytkmdifngljdpeaa", sum := "b6f522b7747936e0cadbb09ad357af726f43ef5ed352a84aa803c584260cd5fb", func := "foliate/foliatelaw18.LockApart", spec := "lockApart", unfollowed := true, recurses := true, apart := false, narrowed := true }
def LockApartUptoSaid : Prop := lockApartUptoRow.holds Try.pinned (OpenSpec.upto lockApartSpec)

end Rows
end Go.Proofs.Ytkmdifngljdpeaa
