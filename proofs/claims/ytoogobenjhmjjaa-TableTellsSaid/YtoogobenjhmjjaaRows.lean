/-
  No cell of these rows narrows 'for every input' (looked for: loops, veiled, ifaces, maps, wideKeys, modest, calm, conditions, laid).
  DERIVED. THE GIVEN ROWS OF THIS SEAT. 7 by the template 'for every input the law returns true; each argument reads behind the call as it read before'; 0 by the template 'total and deterministic' (their statements: YtoogobenjhmjjaaTotals.lean).
  GIVEN WITH THE SEED: the statements are not yours to turn. If you find one false, say at which input.
  Laid BY PROGRAM, IN A SANDBOX (cutbox-rows.mjs): the forced cells as the released guide's own fill.sh prints them over the translation 5e60344d8f6cc4d9… (all of the seat's roots in one cut). By AI agents, Wed Nov 11 2026. No macro, syntax, notation, axiom, sorry.
-/
import Derived.Test.YtoogobenjhmjjaaChecked
import GoSem.Claim
import GoSem.ClaimJoined
import GoSem.ClaimMapViews
import Derived.JoinedTies
import Derived.KernelRfl
namespace Go.Proofs.Ytoogobenjhmjjaa
/- THE CELL 'sum', in the pinned program and in every row, IS THE sha256 OF THE DUMP (.gsa) THAT YtoogobenjhmjjaaProg.lean LOADS. Nothing in Lean hashes anything: it is a label: what it is worth is what the hold of that sum in a sandbox is worth. -/
noncomputable def Try.pinned : Pinned := { name := "ytoogobenjhmjjaa", sum := "5e60344d8f6cc4d9d3fd1e70650f0d5b225831a50d19cf908bd242dfcba67be5", checked := Try.checked }
namespace Rows
def none {H : Type} : Left H := { results := [], args := [] }

/-- 'foliatelaw17.TableNew': WHATEVER THE INPUT: true; the input reads as it did. -/
def tableNewSpec : ChangeSpec := { name := "tableNew", fn := fun _ => fun
  | [d1, d2] => { results := [.lit (.bool true)], args := [d1, d2] }
  | _ => none }
def tableNewRow : OpenClaim := { program := "ytoogobenjhmjjaa", sum := "5e60344d8f6cc4d9d3fd1e70650f0d5b225831a50d19cf908bd242dfcba67be5", func := "foliate/foliatelaw17.TableNew", spec := "tableNew", unfollowed := true, recurses := true, apart := false }
def TableNewSaid : Prop := tableNewRow.holds Try.pinned (OpenSpec.ofChange tableNewSpec)

/-- ITS FALSE NEIGHBOUR: 'it returns false'. Refute it at one input. -/
def tableNewWrong : ChangeSpec := { name := "tableNew", fn := fun _ => fun
  | [d1, d2] => { results := [.lit (.bool false)], args := [d1, d2] }
  | _ => none }
def TableNewWrongFalsely : Prop := tableNewRow.holds Try.pinned (OpenSpec.ofChange tableNewWrong)

/-- 'foliatelaw17.TableApart': WHATEVER THE INPUT: true; the input reads as it did. -/
def tableApartSpec : ChangeSpec := { name := "tableApart", fn := fun _ => fun
  | [d1, d2, d3, d4, d5, d6] => { results := [.lit (.bool true)], args := [d1, d2, d3, d4, d5, d6] }
  | _ => none }
def tableApartRow : OpenClaim := { program := "ytoogobenjhmjjaa", sum := "5e60344d8f6cc4d9d3fd1e70650f0d5b225831a50d19cf908bd242dfcba67be5", func := "foliate/foliatelaw17.TableApart", spec := "tableApart", unfollowed := true, recurses := true, apart := false }
def TableApartSaid : Prop := tableApartRow.holds Try.pinned (OpenSpec.ofChange tableApartSpec)

/-- ITS FALSE NEIGHBOUR: 'it returns false'. Refute it at one input. -/
def tableApartWrong : ChangeSpec := { name := "tableApart", fn := fun _ => fun
  | [d1, d2, d3, d4, d5, d6] => { results := [.lit (.bool false)], args := [d1, d2, d3, d4, d5, d6] }
  | _ => none }
def TableApartWrongFalsely : Prop := tableApartRow.holds Try.pinned (OpenSpec.ofChange tableApartWrong)

/-- 'foliatelaw17.TableTwice': WHATEVER THE INPUT: true; the input reads as it did. -/
def tableTwiceSpec : ChangeSpec := { name := "tableTwice", fn := fun _ => fun
  | [d1, d2, d3, d4, d5, d6] => { results := [.lit (.bool true)], args := [d1, d2, d3, d4, d5, d6] }
  | _ => none }
def tableTwiceRow : OpenClaim := { program := "ytoogobenjhmjjaa", sum := "5e60344d8f6cc4d9d3fd1e70650f0d5b225831a50d19cf908bd242dfcba67be5", func := "foliate/foliatelaw17.TableTwice", spec := "tableTwice", unfollowed := true, recurses := true, apart := false }
def TableTwiceSaid : Prop := tableTwiceRow.holds Try.pinned (OpenSpec.ofChange tableTwiceSpec)

/-- ITS FALSE NEIGHBOUR: 'it returns false'. Refute it at one input. -/
def tableTwiceWrong : ChangeSpec := { name := "tableTwice", fn := fun _ => fun
  | [d1, d2, d3, d4, d5, d6] => { results := [.lit (.bool false)], args := [d1, d2, d3, d4, d5, d6] }
  | _ => none }
def TableTwiceWrongFalsely : Prop := tableTwiceRow.holds Try.pinned (OpenSpec.ofChange tableTwiceWrong)

/-- 'foliatelaw17.TableTells': WHATEVER THE INPUT: true; the input reads as it did. -/
def tableTellsSpec : ChangeSpec := { name := "tableTells", fn := fun _ => fun
  | [d1, d2, d3, d4, d5] => { results := [.lit (.bool true)], args := [d1, d2, d3, d4, d5] }
  | _ => none }
def tableTellsRow : OpenClaim := { program := "ytoogobenjhmjjaa", sum := "5e60344d8f6cc4d9d3fd1e70650f0d5b225831a50d19cf908bd242dfcba67be5", func := "foliate/foliatelaw17.TableTells", spec := "tableTells", unfollowed := true, recurses := true, apart := false }
def TableTellsSaid : Prop := tableTellsRow.holds Try.pinned (OpenSpec.ofChange tableTellsSpec)

/-- ITS FALSE NEIGHBOUR: 'it returns false'. Refute it at one input. -/
def tableTellsWrong : ChangeSpec := { name := "tableTells", fn := fun _ => fun
  | [d1, d2, d3, d4, d5] => { results := [.lit (.bool false)], args := [d1, d2, d3, d4, d5] }
  | _ => none }
def TableTellsWrongFalsely : Prop := tableTellsRow.holds Try.pinned (OpenSpec.ofChange tableTellsWrong)

/-- 'foliatelaw17.TableFork': WHATEVER THE INPUT: true; the input reads as it did. -/
def tableForkSpec : ChangeSpec := { name := "tableFork", fn := fun _ => fun
  | [d1, d2, d3, d4, d5] => { results := [.lit (.bool true)], args := [d1, d2, d3, d4, d5] }
  | _ => none }
def tableForkRow : OpenClaim := { program := "ytoogobenjhmjjaa", sum := "5e60344d8f6cc4d9d3fd1e70650f0d5b225831a50d19cf908bd242dfcba67be5", func := "foliate/foliatelaw17.TableFork", spec := "tableFork", unfollowed := true, recurses := true, apart := false }
def TableForkSaid : Prop := tableForkRow.holds Try.pinned (OpenSpec.ofChange tableForkSpec)

/-- ITS FALSE NEIGHBOUR: 'it returns false'. Refute it at one input. -/
def tableForkWrong : ChangeSpec := { name := "tableFork", fn := fun _ => fun
  | [d1, d2, d3, d4, d5] => { results := [.lit (.bool false)], args := [d1, d2, d3, d4, d5] }
  | _ => none }
def TableForkWrongFalsely : Prop := tableForkRow.holds Try.pinned (OpenSpec.ofChange tableForkWrong)

/-- 'foliatelaw17.TableStays': WHATEVER THE INPUT: true; the input reads as it did. -/
def tableStaysSpec : ChangeSpec := { name := "tableStays", fn := fun _ => fun
  | [d1, d2, d3, d4] => { results := [.lit (.bool true)], args := [d1, d2, d3, d4] }
  | _ => none }
def tableStaysRow : OpenClaim := { program := "ytoogobenjhmjjaa", sum := "5e60344d8f6cc4d9d3fd1e70650f0d5b225831a50d19cf908bd242dfcba67be5", func := "foliate/foliatelaw17.TableStays", spec := "tableStays", unfollowed := true, recurses := true, apart := false }
def TableStaysSaid : Prop := tableStaysRow.holds Try.pinned (OpenSpec.ofChange tableStaysSpec)

/-- ITS FALSE NEIGHBOUR: 'it returns false'. Refute it at one input. -/
def tableStaysWrong : ChangeSpec := { name := "tableStays", fn := fun _ => fun
  | [d1, d2, d3, d4] => { results := [.lit (.bool false)], args := [d1, d2, d3, d4] }
  | _ => none }
def TableStaysWrongFalsely : Prop := tableStaysRow.holds Try.pinned (OpenSpec.ofChange tableStaysWrong)

/-- 'foliatelaw17.TableAll': WHATEVER THE INPUT: true; the input reads as it did. -/
def tableAllSpec : ChangeSpec := { name := "tableAll", fn := fun _ => fun
  | [d] => { results := [.lit (.bool true)], args := [d] }
  | _ => none }
def tableAllRow : OpenClaim := { program := "ytoogobenjhmjjaa", sum := "5e60344d8f6cc4d9d3fd1e70650f0d5b225831a50d19cf908bd242dfcba67be5", func := "foliate/foliatelaw17.TableAll", spec := "tableAll", unfollowed := true, recurses := true, apart := false }
def TableAllSaid : Prop := tableAllRow.holds Try.pinned (OpenSpec.ofChange tableAllSpec)

/-- ITS FALSE NEIGHBOUR: 'it returns false'. Refute it at one input. -/
def tableAllWrong : ChangeSpec := { name := "tableAll", fn := fun _ => fun
  | [d] => { results := [.lit (.bool false)], args := [d] }
  | _ => none }
def TableAllWrongFalsely : Prop := tableAllRow.holds Try.pinned (OpenSpec.ofChange tableAllWrong)

/- THE SECOND FORM. 'bulk': how many values and letters a reading holds, each counted each time it is reached (what is shared counts as often as it is met; a slice's spare places count too). A statement '..UptoSaid' is the law's where the arguments, and the package variables that the reading takes, are together of bulk at most 1048576: NARROWER than '..Said'. Prove '..Said' where nothing that the law and all that it calls make is longer than what came in: it says more and counts as full. Else prove '..UptoSaid'. A law counts once. -/
mutual
def uptoBulk {H : Type} : DataW H → Nat
  | .lit (.string bytes) => bytes.length + 1
  | .lit _ => 1
  | .nil => 1
  | .ptr d => uptoBulk d + 1
  | .slice elems spare => uptoBulkAll elems + uptoBulkAll spare + 1
  | .agg parts => uptoBulkAll parts + 1
  | .iface _ d => uptoBulk d + 1
  | .map entries => uptoBulkEntries entries + 1
  | .held _ => 1
def uptoBulkAll {H : Type} : List (DataW H) → Nat
  | [] => 0
  | d :: r => uptoBulk d + uptoBulkAll r
def uptoBulkEntries {H : Type} : List (Lit × DataW H) → Nat
  | [] => 0
  | x :: r => uptoBulkEntry x + uptoBulkEntries r
def uptoBulkEntry {H : Type} : Lit × DataW H → Nat
  | (.string bytes, d) => bytes.length + uptoBulk d + 1
  | (_, d) => uptoBulk d + 1
 end
def uptoSmall : (H : Type) → List (DataW H) → Bool := fun _ ds => decide (uptoBulkAll ds ≤ 1048576)
def OpenSpec.upto (s : _root_.Go.ChangeSpec) : _root_.Go.OpenSpec := { _root_.Go.OpenSpec.ofChange s with cond := some uptoSmall }

/-- 'foliatelaw17.TableNew', WHERE WHAT IT READS IS OF BULK AT MOST 1048576: true; the input reads as it did. -/
def tableNewUptoRow : OpenClaim := { program := "ytoogobenjhmjjaa", sum := "5e60344d8f6cc4d9d3fd1e70650f0d5b225831a50d19cf908bd242dfcba67be5", func := "foliate/foliatelaw17.TableNew", spec := "tableNew", unfollowed := true, recurses := true, apart := false, narrowed := true }
def TableNewUptoSaid : Prop := tableNewUptoRow.holds Try.pinned (OpenSpec.upto tableNewSpec)

/-- 'foliatelaw17.TableApart', WHERE WHAT IT READS IS OF BULK AT MOST 1048576: true; the input reads as it did. -/
def tableApartUptoRow : OpenClaim := { program := "ytoogobenjhmjjaa", sum := "5e60344d8f6cc4d9d3fd1e70650f0d5b225831a50d19cf908bd242dfcba67be5", func := "foliate/foliatelaw17.TableApart", spec := "tableApart", unfollowed := true, recurses := true, apart := false, narrowed := true }
def TableApartUptoSaid : Prop := tableApartUptoRow.holds Try.pinned (OpenSpec.upto tableApartSpec)

/-- 'foliatelaw17.TableTwice', WHERE WHAT IT READS IS OF BULK AT MOST 1048576: true; the input reads as it did. -/
def tableTwiceUptoRow : OpenClaim := { program := "ytoogobenjhmjjaa", sum := "5e60344d8f6cc4d9d3fd1e70650f0d5b225831a50d19cf908bd242dfcba67be5", func := "foliate/foliatelaw17.TableTwice", spec := "tableTwice", unfollowed := true, recurses := true, apart := false, narrowed := true }
def TableTwiceUptoSaid : Prop := tableTwiceUptoRow.holds Try.pinned (OpenSpec.upto tableTwiceSpec)

/-- 'foliatelaw17.TableTells', WHERE WHAT IT READS IS OF BULK AT MOST 1048576: true; the input reads as it did. -/
def tableTellsUptoRow : OpenClaim := { program := "ytoogobenjhmjjaa", sum := "5e60344d8f6cc4d9d3fd1e70650f0d5b225831a50d19cf908bd242dfcba67be5", func := "foliate/foliatelaw17.TableTells", spec := "tableTells", unfollowed := true, recurses := true, apart := false, narrowed := true }
def TableTellsUptoSaid : Prop := tableTellsUptoRow.holds Try.pinned (OpenSpec.upto tableTellsSpec)

/-- 'foliatelaw17.TableFork', WHERE WHAT IT READS IS OF BULK AT MOST 1048576: true; the input reads as it did. -/
def tableForkUptoRow : OpenClaim := { program := "ytoogobenjhmjjaa", sum := "5e60344d8f6cc4d9d3fd1e70650f0d5b225831a50d19cf908bd242dfcba67be5", func := "foliate/foliatelaw17.TableFork", spec := "tableFork", unfollowed := true, recurses := true, apart := false, narrowed := true }
def TableForkUptoSaid : Prop := tableForkUptoRow.holds Try.pinned (OpenSpec.upto tableForkSpec)

/-- 'foliatelaw17.TableStays', WHERE WHAT IT READS IS OF BULK AT MOST 1048576: true; the input reads as it did. -/
def tableStaysUptoRow : OpenClaim := { program := "ytoogobenjhmjjaa", sum := "5e60344d8f6cc4d9d3fd1e70650f0d5b225831a50d19cf908bd242dfcba67be5", func := "foliate/foliatelaw17.TableStays", spec := "tableStays", unfollowed := true, recurses := true, apart := false, narrowed := true }
def TableStaysUptoSaid : Prop := tableStaysUptoRow.holds Try.pinned (OpenSpec.upto tableStaysSpec)

/-- 'foliatelaw17.TableAll', WHERE WHAT IT READS IS OF BULK AT MOST 1048576: true; the input reads as it did. -/
def tableAllUptoRow : OpenClaim := { program := "ytoogobenjhmjjaa", sum := "5e60344d8f6cc4d9d3fd1e70650f0d5b225831a50d19cf908bd242dfcba67be5", func := "foliate/foliatelaw17.TableAll", spec := "tableAll", unfollowed := true, recurses := true, apart := false, narrowed := true }
def TableAllUptoSaid : Prop := tableAllUptoRow.holds Try.pinned (OpenSpec.upto tableAllSpec)

end Rows
end Go.Proofs.Ytoogobenjhmjjaa
