/-
  No cell of these rows narrows 'for every input' (looked for: loops, veiled, ifaces, maps, wideKeys, modest, calm, conditions, laid).
  DERIVED. THE GIVEN ROWS OF THIS SEAT. 7 by the template 'for every input the law returns true; each argument reads behind the call as it read before'; 0 by the template 'total and deterministic' (their statements: YtelfkopoppfaaaaTotals.lean).
  GIVEN WITH THE SEED: the statements are not yours to turn. If you find one false, say at which input.
  Laid BY PROGRAM, IN A SANDBOX (cutbox-rows.mjs): the forced cells as the released guide's own fill.sh prints them over the translation a9a30aa84104cf27… (all of the seat's roots in one cut). By AI agents, Wed Nov 11 2026. No macro, syntax, notation, axiom, sorry.
-/
import Derived.Test.YtelfkopoppfaaaaChecked
import GoSem.Claim
import GoSem.ClaimJoined
import GoSem.ClaimMapViews
import Derived.JoinedTies
import Derived.KernelRfl
namespace Go.Proofs.Ytelfkopoppfaaaa
/- THE CELL 'sum', in the pinned program and in every row, IS THE sha256 OF THE DUMP (.gsa) THAT YtelfkopoppfaaaaProg.lean LOADS. Nothing in Lean hashes anything: it is a label: what it is worth is what the hold of that sum in a sandbox is worth. -/
noncomputable def Try.pinned : Pinned := { name := "ytelfkopoppfaaaa", sum := "a9a30aa84104cf270ee6327e956a3d73ea3469dc136bb7f51b74db9b1d82797f", checked := Try.checked }
namespace Rows
def none {H : Type} : Left H := { results := [], args := [] }

/-- 'foliatelaw16.PageNew': WHATEVER THE INPUT: true; the input reads as it did. -/
def pageNewSpec : ChangeSpec := { name := "pageNew", fn := fun _ => fun
  | [d] => { results := [.lit (.bool true)], args := [d] }
  | _ => none }
def pageNewRow : OpenClaim := { program := "ytelfkopoppfaaaa", sum := "a9a30aa84104cf270ee6327e956a3d73ea3469dc136bb7f51b74db9b1d82797f", func := "foliate/foliatelaw16.PageNew", spec := "pageNew", unfollowed := true, recurses := true, apart := false }
def PageNewSaid : Prop := pageNewRow.holds Try.pinned (OpenSpec.ofChange pageNewSpec)

/-- ITS FALSE NEIGHBOUR: 'it returns false'. Refute it at one input. -/
def pageNewWrong : ChangeSpec := { name := "pageNew", fn := fun _ => fun
  | [d] => { results := [.lit (.bool false)], args := [d] }
  | _ => none }
def PageNewWrongFalsely : Prop := pageNewRow.holds Try.pinned (OpenSpec.ofChange pageNewWrong)

/-- 'foliatelaw16.PageWrite': WHATEVER THE INPUT: true; the input reads as it did. -/
def pageWriteSpec : ChangeSpec := { name := "pageWrite", fn := fun _ => fun
  | [d1, d2, d3, d4, d5] => { results := [.lit (.bool true)], args := [d1, d2, d3, d4, d5] }
  | _ => none }
def pageWriteRow : OpenClaim := { program := "ytelfkopoppfaaaa", sum := "a9a30aa84104cf270ee6327e956a3d73ea3469dc136bb7f51b74db9b1d82797f", func := "foliate/foliatelaw16.PageWrite", spec := "pageWrite", unfollowed := true, recurses := true, apart := false }
def PageWriteSaid : Prop := pageWriteRow.holds Try.pinned (OpenSpec.ofChange pageWriteSpec)

/-- ITS FALSE NEIGHBOUR: 'it returns false'. Refute it at one input. -/
def pageWriteWrong : ChangeSpec := { name := "pageWrite", fn := fun _ => fun
  | [d1, d2, d3, d4, d5] => { results := [.lit (.bool false)], args := [d1, d2, d3, d4, d5] }
  | _ => none }
def PageWriteWrongFalsely : Prop := pageWriteRow.holds Try.pinned (OpenSpec.ofChange pageWriteWrong)

/-- 'foliatelaw16.PageAlloc': WHATEVER THE INPUT: true; the input reads as it did. -/
def pageAllocSpec : ChangeSpec := { name := "pageAlloc", fn := fun _ => fun
  | [d1, d2] => { results := [.lit (.bool true)], args := [d1, d2] }
  | _ => none }
def pageAllocRow : OpenClaim := { program := "ytelfkopoppfaaaa", sum := "a9a30aa84104cf270ee6327e956a3d73ea3469dc136bb7f51b74db9b1d82797f", func := "foliate/foliatelaw16.PageAlloc", spec := "pageAlloc", unfollowed := true, recurses := true, apart := false }
def PageAllocSaid : Prop := pageAllocRow.holds Try.pinned (OpenSpec.ofChange pageAllocSpec)

/-- ITS FALSE NEIGHBOUR: 'it returns false'. Refute it at one input. -/
def pageAllocWrong : ChangeSpec := { name := "pageAlloc", fn := fun _ => fun
  | [d1, d2] => { results := [.lit (.bool false)], args := [d1, d2] }
  | _ => none }
def PageAllocWrongFalsely : Prop := pageAllocRow.holds Try.pinned (OpenSpec.ofChange pageAllocWrong)

/-- 'foliatelaw16.PageTwice': WHATEVER THE INPUT: true; the input reads as it did. -/
def pageTwiceSpec : ChangeSpec := { name := "pageTwice", fn := fun _ => fun
  | [d1, d2, d3, d4, d5, d6] => { results := [.lit (.bool true)], args := [d1, d2, d3, d4, d5, d6] }
  | _ => none }
def pageTwiceRow : OpenClaim := { program := "ytelfkopoppfaaaa", sum := "a9a30aa84104cf270ee6327e956a3d73ea3469dc136bb7f51b74db9b1d82797f", func := "foliate/foliatelaw16.PageTwice", spec := "pageTwice", unfollowed := true, recurses := true, apart := false }
def PageTwiceSaid : Prop := pageTwiceRow.holds Try.pinned (OpenSpec.ofChange pageTwiceSpec)

/-- ITS FALSE NEIGHBOUR: 'it returns false'. Refute it at one input. -/
def pageTwiceWrong : ChangeSpec := { name := "pageTwice", fn := fun _ => fun
  | [d1, d2, d3, d4, d5, d6] => { results := [.lit (.bool false)], args := [d1, d2, d3, d4, d5, d6] }
  | _ => none }
def PageTwiceWrongFalsely : Prop := pageTwiceRow.holds Try.pinned (OpenSpec.ofChange pageTwiceWrong)

/-- 'foliatelaw16.PageTells': WHATEVER THE INPUT: true; the input reads as it did. -/
def pageTellsSpec : ChangeSpec := { name := "pageTells", fn := fun _ => fun
  | [d1, d2, d3, d4, d5] => { results := [.lit (.bool true)], args := [d1, d2, d3, d4, d5] }
  | _ => none }
def pageTellsRow : OpenClaim := { program := "ytelfkopoppfaaaa", sum := "a9a30aa84104cf270ee6327e956a3d73ea3469dc136bb7f51b74db9b1d82797f", func := "foliate/foliatelaw16.PageTells", spec := "pageTells", unfollowed := true, recurses := true, apart := false }
def PageTellsSaid : Prop := pageTellsRow.holds Try.pinned (OpenSpec.ofChange pageTellsSpec)

/-- ITS FALSE NEIGHBOUR: 'it returns false'. Refute it at one input. -/
def pageTellsWrong : ChangeSpec := { name := "pageTells", fn := fun _ => fun
  | [d1, d2, d3, d4, d5] => { results := [.lit (.bool false)], args := [d1, d2, d3, d4, d5] }
  | _ => none }
def PageTellsWrongFalsely : Prop := pageTellsRow.holds Try.pinned (OpenSpec.ofChange pageTellsWrong)

/-- 'foliatelaw16.PageStays': WHATEVER THE INPUT: true; the input reads as it did. -/
def pageStaysSpec : ChangeSpec := { name := "pageStays", fn := fun _ => fun
  | [d1, d2, d3, d4] => { results := [.lit (.bool true)], args := [d1, d2, d3, d4] }
  | _ => none }
def pageStaysRow : OpenClaim := { program := "ytelfkopoppfaaaa", sum := "a9a30aa84104cf270ee6327e956a3d73ea3469dc136bb7f51b74db9b1d82797f", func := "foliate/foliatelaw16.PageStays", spec := "pageStays", unfollowed := true, recurses := true, apart := false }
def PageStaysSaid : Prop := pageStaysRow.holds Try.pinned (OpenSpec.ofChange pageStaysSpec)

/-- ITS FALSE NEIGHBOUR: 'it returns false'. Refute it at one input. -/
def pageStaysWrong : ChangeSpec := { name := "pageStays", fn := fun _ => fun
  | [d1, d2, d3, d4] => { results := [.lit (.bool false)], args := [d1, d2, d3, d4] }
  | _ => none }
def PageStaysWrongFalsely : Prop := pageStaysRow.holds Try.pinned (OpenSpec.ofChange pageStaysWrong)

/-- 'foliatelaw16.PageBack': WHATEVER THE INPUT: true; the input reads as it did. -/
def pageBackSpec : ChangeSpec := { name := "pageBack", fn := fun _ => fun
  | [d1, d2] => { results := [.lit (.bool true)], args := [d1, d2] }
  | _ => none }
def pageBackRow : OpenClaim := { program := "ytelfkopoppfaaaa", sum := "a9a30aa84104cf270ee6327e956a3d73ea3469dc136bb7f51b74db9b1d82797f", func := "foliate/foliatelaw16.PageBack", spec := "pageBack", unfollowed := true, recurses := true, apart := false }
def PageBackSaid : Prop := pageBackRow.holds Try.pinned (OpenSpec.ofChange pageBackSpec)

/-- ITS FALSE NEIGHBOUR: 'it returns false'. Refute it at one input. -/
def pageBackWrong : ChangeSpec := { name := "pageBack", fn := fun _ => fun
  | [d1, d2] => { results := [.lit (.bool false)], args := [d1, d2] }
  | _ => none }
def PageBackWrongFalsely : Prop := pageBackRow.holds Try.pinned (OpenSpec.ofChange pageBackWrong)

/- THE SECOND FORM. 'bulk': how many values and letters a reading holds, each counted each time it is reached (what is shared counts as often as it is met; a slice's spare places count too). A statement '..UptoSaid' is the law's where the arguments, and the package variables that the reading takes, are together of bulk at most 1048576: NARROWER than '..Said'. Prove '..Said' where nothing that the law and all that it calls make is longer than what came in: it says more and counts as full. Else prove '..UptoSaid'. A law counts once. -/
mutual
def uptoBulk {H : Type} : DataW H → Nat
  | .lit (.string bytes) => bytes.length + 1
  | .lit _ => 1
  | .nil => 1
  | .ptr d => uptoBulk d + 1
  | .slice elems spare => uptoBulkAll elems + uptoBulkAll spare + 1
  | .agg parts => uptoBulkAll parts + 1
  | .iface _ d => uptoBulk d + 1
  | .map entries => uptoBulkEntries entries + 1
  | .held _ => 1
def uptoBulkAll {H : Type} : List (DataW H) → Nat
  | [] => 0
  | d :: r => uptoBulk d + uptoBulkAll r
def uptoBulkEntries {H : Type} : List (Lit × DataW H) → Nat
  | [] => 0
  | x :: r => uptoBulkEntry x + uptoBulkEntries r
def uptoBulkEntry {H : Type} : Lit × DataW H → Nat
  | (.string bytes, d) => bytes.length + uptoBulk d + 1
  | (_, d) => uptoBulk d + 1
 end
def uptoSmall : (H : Type) → List (DataW H) → Bool := fun _ ds => decide (uptoBulkAll ds ≤ 1048576)
def OpenSpec.upto (s : _root_.Go.ChangeSpec) : _root_.Go.OpenSpec := { _root_.Go.OpenSpec.ofChange s with cond := some uptoSmall }

/-- 'foliatelaw16.PageNew', WHERE WHAT IT READS IS OF BULK AT MOST 1048576: true; the input reads as it did. -/
def pageNewUptoRow : OpenClaim := { program := "ytelfkopoppfaaaa", sum := "a9a30aa84104cf270ee6327e956a3d73ea3469dc136bb7f51b74db9b1d82797f", func := "foliate/foliatelaw16.PageNew", spec := "pageNew", unfollowed := true, recurses := true, apart := false, narrowed := true }
def PageNewUptoSaid : Prop := pageNewUptoRow.holds Try.pinned (OpenSpec.upto pageNewSpec)

/-- 'foliatelaw16.PageWrite', WHERE WHAT IT READS IS OF BULK AT MOST 1048576: true; the input reads as it did. -/
def pageWriteUptoRow : OpenClaim := { program := "ytelfkopoppfaaaa", sum := "a9a30aa84104cf270ee6327e956a3d73ea3469dc136bb7f51b74db9b1d82797f", func := "foliate/foliatelaw16.PageWrite", spec := "pageWrite", unfollowed := true, recurses := true, apart := false, narrowed := true }
def PageWriteUptoSaid : Prop := pageWriteUptoRow.holds Try.pinned (OpenSpec.upto pageWriteSpec)

/-- 'foliatelaw16.PageAlloc', WHERE WHAT IT READS IS OF BULK AT MOST 1048576: true; the input reads as it did. -/
def pageAllocUptoRow : OpenClaim := { program := "ytelfkopoppfaaaa", sum := "a9a30aa84104cf270ee6327e956a3d73ea3469dc136bb7f51b74db9b1d82797f", func := "foliate/foliatelaw16.PageAlloc", spec := "pageAlloc", unfollowed := true, recurses := true, apart := false, narrowed := true }
def PageAllocUptoSaid : Prop := pageAllocUptoRow.holds Try.pinned (OpenSpec.upto pageAllocSpec)

/-- 'foliatelaw16.PageTwice', WHERE WHAT IT READS IS OF BULK AT MOST 1048576: true; the input reads as it did. -/
def pageTwiceUptoRow : OpenClaim := { program := "ytelfkopoppfaaaa", sum := "a9a30aa84104cf270ee6327e956a3d73ea3469dc136bb7f51b74db9b1d82797f", func := "foliate/foliatelaw16.PageTwice", spec := "pageTwice", unfollowed := true, recurses := true, apart := false, narrowed := true }
def PageTwiceUptoSaid : Prop := pageTwiceUptoRow.holds Try.pinned (OpenSpec.upto pageTwiceSpec)

/-- 'foliatelaw16.PageTells', WHERE WHAT IT READS IS OF BULK AT MOST 1048576: true; the input reads as it did. -/
def pageTellsUptoRow : OpenClaim := { program := "ytelfkopoppfaaaa", sum := "a9a30aa84104cf270ee6327e956a3d73ea3469dc136bb7f51b74db9b1d82797f", func := "foliate/foliatelaw16.PageTells", spec := "pageTells", unfollowed := true, recurses := true, apart := false, narrowed := true }
def PageTellsUptoSaid : Prop := pageTellsUptoRow.holds Try.pinned (OpenSpec.upto pageTellsSpec)

/-- 'foliatelaw16.PageStays', WHERE WHAT IT READS IS OF BULK AT MOST 1048576: true; the input reads as it did. -/
def pageStaysUptoRow : OpenClaim := { program := "ytelfkopoppfaaaa", sum := "a9a30aa84104cf270ee6327e956a3d73ea3469dc136bb7f51b74db9b1d82797f", func := "foliate/foliatelaw16.PageStays", spec := "pageStays", unfollowed := true, recurses := true, apart := false, narrowed := true }
def PageStaysUptoSaid : Prop := pageStaysUptoRow.holds Try.pinned (OpenSpec.upto pageStaysSpec)

/-- 'foliatelaw16.PageBack', WHERE WHAT IT READS IS OF BULK AT MOST 1048576: true; the input reads as it did. -/
def pageBackUptoRow : OpenClaim := { program := "ytelfkopoppfaaaa", sum := "a9a30aa84104cf270ee6327e956a3d73ea3469dc136bb7f51b74db9b1d82797f", func := "foliate/foliatelaw16.PageBack", spec := "pageBack", unfollowed := true, recurses := true, apart := false, narrowed := true }
def PageBackUptoSaid : Prop := pageBackUptoRow.holds Try.pinned (OpenSpec.upto pageBackSpec)

end Rows
end Go.Proofs.Ytelfkopoppfaaaa
