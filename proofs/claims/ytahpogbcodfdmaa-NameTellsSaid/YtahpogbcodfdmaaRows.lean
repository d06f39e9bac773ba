/-
  No cell of these rows narrows 'for every input' (looked for: loops, veiled, ifaces, maps, wideKeys, modest, calm, conditions, laid).
  DERIVED. THE GIVEN ROWS OF THIS SEAT. 6 by the template 'for every input the law returns true; each argument reads behind the call as it read before'; 0 by the template 'total and deterministic' (their statements: YtahpogbcodfdmaaTotals.lean).
  GIVEN WITH THE SEED: the statements are not yours to turn. If you find one false, say at which input.
  Laid BY PROGRAM, IN A SANDBOX (cutbox-rows.mjs): the forced cells as the released guide's own fill.sh prints them over the translation 6c0b02702d0f0522… (all of the seat's roots in one cut). By AI agents, Wed Nov 11 2026. No macro, syntax, notation, axiom, sorry.
-/
import Derived.Test.YtahpogbcodfdmaaChecked
import GoSem.Claim
import GoSem.ClaimJoined
import GoSem.ClaimMapViews
import Derived.JoinedTies
import Derived.KernelRfl
namespace Go.Proofs.Ytahpogbcodfdmaa
/- THE CELL 'sum', in the pinned program and in every row, IS THE sha256 OF THE DUMP (.gsa) THAT YtahpogbcodfdmaaProg.lean LOADS. Nothing in Lean hashes anything: it is a label: what it is worth is what the hold of that sum in a sandbox is worth. -/
noncomputable def Try.pinned : Pinned := { name := "ytahpogbcodfdmaa", sum := "6c0b02702d0f05225c3fa93740e4083be48b065a028fe552a34e7ac36a7cf01a", checked := Try.checked }
namespace Rows
def none {H : Type} : Left H := { results := [], args := [] }

/-- 'foliatelaw05.NameTells': WHATEVER THE INPUT: true; the input reads as it did. -/
def nameTellsSpec : ChangeSpec := { name := "nameTells", fn := fun _ => fun
  | [d1, d2] => { results := [.lit (.bool true)], args := [d1, d2] }
  | _ => none }
def nameTellsRow : OpenClaim := { program := "ytahpogbcodfdmaa", sum := "6c0b02702d0f05225c3fa93740e4083be48b065a028fe552a34e7ac36a7cf01a", func := "foliate/foliatelaw05.NameTells", spec := "nameTells", inPlace := ["internal/bytealg.IndexByteString", "internal/bytealg.IndexString"], unfollowed := true, recurses := true, named := ["internal/bytealg.MaxLen"], apart := false }
def NameTellsSaid : Prop := nameTellsRow.holds Try.pinned (OpenSpec.ofChange nameTellsSpec)

/-- ITS FALSE NEIGHBOUR: 'it returns false'. Refute it at one input. -/
def nameTellsWrong : ChangeSpec := { name := "nameTells", fn := fun _ => fun
  | [d1, d2] => { results := [.lit (.bool false)], args := [d1, d2] }
  | _ => none }
def NameTellsWrongFalsely : Prop := nameTellsRow.holds Try.pinned (OpenSpec.ofChange nameTellsWrong)

/-- 'foliatelaw05.NameOrder': WHATEVER THE INPUT: true; the input reads as it did. -/
def nameOrderSpec : ChangeSpec := { name := "nameOrder", fn := fun _ => fun
  | [d1, d2, d3] => { results := [.lit (.bool true)], args := [d1, d2, d3] }
  | _ => none }
def nameOrderRow : OpenClaim := { program := "ytahpogbcodfdmaa", sum := "6c0b02702d0f05225c3fa93740e4083be48b065a028fe552a34e7ac36a7cf01a", func := "foliate/foliatelaw05.NameOrder", spec := "nameOrder", inPlace := ["internal/bytealg.IndexByteString", "internal/bytealg.IndexString"], unfollowed := true, recurses := true, named := ["internal/bytealg.MaxLen"], apart := false }
def NameOrderSaid : Prop := nameOrderRow.holds Try.pinned (OpenSpec.ofChange nameOrderSpec)

/-- ITS FALSE NEIGHBOUR: 'it returns false'. Refute it at one input. -/
def nameOrderWrong : ChangeSpec := { name := "nameOrder", fn := fun _ => fun
  | [d1, d2, d3] => { results := [.lit (.bool false)], args := [d1, d2, d3] }
  | _ => none }
def NameOrderWrongFalsely : Prop := nameOrderRow.holds Try.pinned (OpenSpec.ofChange nameOrderWrong)

/-- 'foliatelaw05.NameJoin': WHATEVER THE INPUT: true; the input reads as it did. -/
def nameJoinSpec : ChangeSpec := { name := "nameJoin", fn := fun _ => fun
  | [d1, d2, d3] => { results := [.lit (.bool true)], args := [d1, d2, d3] }
  | _ => none }
def nameJoinRow : OpenClaim := { program := "ytahpogbcodfdmaa", sum := "6c0b02702d0f05225c3fa93740e4083be48b065a028fe552a34e7ac36a7cf01a", func := "foliate/foliatelaw05.NameJoin", spec := "nameJoin", inPlace := ["internal/bytealg.IndexByteString", "internal/bytealg.IndexString"], unfollowed := true, recurses := true, named := ["internal/bytealg.MaxLen"], apart := false }
def NameJoinSaid : Prop := nameJoinRow.holds Try.pinned (OpenSpec.ofChange nameJoinSpec)

/-- ITS FALSE NEIGHBOUR: 'it returns false'. Refute it at one input. -/
def nameJoinWrong : ChangeSpec := { name := "nameJoin", fn := fun _ => fun
  | [d1, d2, d3] => { results := [.lit (.bool false)], args := [d1, d2, d3] }
  | _ => none }
def NameJoinWrongFalsely : Prop := nameJoinRow.holds Try.pinned (OpenSpec.ofChange nameJoinWrong)

/-- 'foliatelaw05.NameParts': WHATEVER THE INPUT: true; the input reads as it did. -/
def namePartsSpec : ChangeSpec := { name := "nameParts", fn := fun _ => fun
  | [d1, d2, d3] => { results := [.lit (.bool true)], args := [d1, d2, d3] }
  | _ => none }
def namePartsRow : OpenClaim := { program := "ytahpogbcodfdmaa", sum := "6c0b02702d0f05225c3fa93740e4083be48b065a028fe552a34e7ac36a7cf01a", func := "foliate/foliatelaw05.NameParts", spec := "nameParts", inPlace := ["internal/bytealg.IndexByteString", "internal/bytealg.IndexString"], unfollowed := true, recurses := true, named := ["internal/bytealg.MaxLen"], apart := false }
def NamePartsSaid : Prop := namePartsRow.holds Try.pinned (OpenSpec.ofChange namePartsSpec)

/-- ITS FALSE NEIGHBOUR: 'it returns false'. Refute it at one input. -/
def namePartsWrong : ChangeSpec := { name := "nameParts", fn := fun _ => fun
  | [d1, d2, d3] => { results := [.lit (.bool false)], args := [d1, d2, d3] }
  | _ => none }
def NamePartsWrongFalsely : Prop := namePartsRow.holds Try.pinned (OpenSpec.ofChange namePartsWrong)

/-- 'foliatelaw05.NameSigns': WHATEVER THE INPUT: true; the input reads as it did. -/
def nameSignsSpec : ChangeSpec := { name := "nameSigns", fn := fun _ => fun
  | [d1, d2, d3] => { results := [.lit (.bool true)], args := [d1, d2, d3] }
  | _ => none }
def nameSignsRow : OpenClaim := { program := "ytahpogbcodfdmaa", sum := "6c0b02702d0f05225c3fa93740e4083be48b065a028fe552a34e7ac36a7cf01a", func := "foliate/foliatelaw05.NameSigns", spec := "nameSigns", inPlace := ["internal/bytealg.IndexByteString", "internal/bytealg.IndexString"], unfollowed := true, recurses := true, named := ["internal/bytealg.MaxLen"], apart := false }
def NameSignsSaid : Prop := nameSignsRow.holds Try.pinned (OpenSpec.ofChange nameSignsSpec)

/-- ITS FALSE NEIGHBOUR: 'it returns false'. Refute it at one input. -/
def nameSignsWrong : ChangeSpec := { name := "nameSigns", fn := fun _ => fun
  | [d1, d2, d3] => { results := [.lit (.bool false)], args := [d1, d2, d3] }
  | _ => none }
def NameSignsWrongFalsely : Prop := nameSignsRow.holds Try.pinned (OpenSpec.ofChange nameSignsWrong)

/-- 'foliatelaw05.NameDot': WHATEVER THE INPUT: true; the input reads as it did. -/
def nameDotSpec : ChangeSpec := { name := "nameDot", fn := fun _ => fun
  | [d] => { results := [.lit (.bool true)], args := [d] }
  | _ => none }
def nameDotRow : OpenClaim := { program := "ytahpogbcodfdmaa", sum := "6c0b02702d0f05225c3fa93740e4083be48b065a028fe552a34e7ac36a7cf01a", func := "foliate/foliatelaw05.NameDot", spec := "nameDot", inPlace := ["internal/bytealg.IndexByteString", "internal/bytealg.IndexString"], unfollowed := true, recurses := true, named := ["internal/bytealg.MaxLen"], apart := false }
def NameDotSaid : Prop := nameDotRow.holds Try.pinned (OpenSpec.ofChange nameDotSpec)

/-- ITS FALSE NEIGHBOUR: 'it returns false'. Refute it at one input. -/
def nameDotWrong : ChangeSpec := { name := "nameDot", fn := fun _ => fun
  | [d] => { results := [.lit (.bool false)], args := [d] }
  | _ => none }
def NameDotWrongFalsely : Prop := nameDotRow.holds Try.pinned (OpenSpec.ofChange nameDotWrong)

/- THE SECOND FORM. 'bulk': how many values and letters a reading holds, each counted each time it is reached (what is shared counts as often as it is met; a slice's spare places count too). A statement '..UptoSaid' is the law's where the arguments, and the package variables that the reading takes, are together of bulk at most 1048576: NARROWER than '..Said'. Prove '..Said' where nothing that the law and all that it calls make is longer than what came in: it says more and counts as full. Else prove '..UptoSaid'. A law counts once. -/
mutual
def uptoBulk {H : Type} : DataW H → Nat
  | .lit (.string bytes) => bytes.length + 1
  | .lit _ => 1
  | .nil => 1
  | .ptr d => uptoBulk d + 1
  | .slice elems spare => uptoBulkAll elems + uptoBulkAll spare + 1
  | .agg parts => uptoBulkAll parts + 1
  | .iface _ d => uptoBulk d + 1
  | .map entries => uptoBulkEntries entries + 1
  | .held _ => 1
def uptoBulkAll {H : Type} : List (DataW H) → Nat
  | [] => 0
  | d :: r => uptoBulk d + uptoBulkAll r
def uptoBulkEntries {H : Type} : List (Lit × DataW H) → Nat
  | [] => 0
  | x :: r => uptoBulkEntry x + uptoBulkEntries r
def uptoBulkEntry {H : Type} : Lit × DataW H → Nat
  | (.string bytes, d) => bytes.length + uptoBulk d + 1
  | (_, d) => uptoBulk d + 1
 end
def uptoSmall : (H : Type) → List (DataW H) → Bool := fun _ ds => decide (uptoBulkAll ds ≤ 1048576)
def OpenSpec.upto (s : _root_.Go.ChangeSpec) : _root_.Go.OpenSpec := { _root_.Go.OpenSpec.ofChange s with cond := some uptoSmall }

/-- 'foliatelaw05.NameTells', WHERE WHAT IT READS IS OF BULK AT MOST 1048576: true; the input reads as it did. -/
def nameTellsUptoRow : OpenClaim := { program := "ytahpogbcodfdmaa", sum := "6c0b02702d0f05225c3fa93740e4083be48b065a028fe552a34e7ac36a7cf01a", func := "foliate/foliatelaw05.NameTells", spec := "nameTells", inPlace := ["internal/bytealg.IndexByteString", "internal/bytealg.IndexString"], unfollowed := true, recurses := true, named := ["internal/bytealg.MaxLen"], apart := false, narrowed := true }
def NameTellsUptoSaid : Prop := nameTellsUptoRow.holds Try.pinned (OpenSpec.upto nameTellsSpec)

/-- 'foliatelaw05.NameOrder', WHERE WHAT IT READS IS OF BULK AT MOST 1048576: true; the input reads as it did. -/
def nameOrderUptoRow : OpenClaim := { program := "ytahpogbcodfdmaa", sum := "6c0b02702d0f05225c3fa93740e4083be48b065a028fe552a34e7ac36a7cf01a", func := "foliate/foliatelaw05.NameOrder", spec := "nameOrder", inPlace := ["internal/bytealg.IndexByteString", "internal/bytealg.IndexString"], unfollowed := true, recurses := true, named := ["internal/bytealg.MaxLen"], apart := false, narrowed := true }
def NameOrderUptoSaid : Prop := nameOrderUptoRow.holds Try.pinned (OpenSpec.upto nameOrderSpec)

/-- 'foliatelaw05.NameJoin', WHERE WHAT IT READS IS OF BULK AT MOST 1048576: true; the input reads as it did. -/
def nameJoinUptoRow : OpenClaim := { program := "ytahpogbcodfdmaa", sum := "6c0b02702d0f05225c3fa93740e4083be48b065a028fe552a34e7ac36a7cf01a", func := "foliate/foliatelaw05.NameJoin", spec := "nameJoin", inPlace := ["internal/bytealg.IndexByteString", "internal/bytealg.IndexString"], unfollowed := true, recurses := true, named := ["internal/bytealg.MaxLen"], apart := false, narrowed := true }
def NameJoinUptoSaid : Prop := nameJoinUptoRow.holds Try.pinned (OpenSpec.upto nameJoinSpec)

/-- 'foliatelaw05.NameParts', WHERE WHAT IT READS IS OF BULK AT MOST 1048576: true; the input reads as it did. -/
def namePartsUptoRow : OpenClaim := { program := "ytahpogbcodfdmaa", sum := "6c0b02702d0f05225c3fa93740e4083be48b065a028fe552a34e7ac36a7cf01a", func := "foliate/foliatelaw05.NameParts", spec := "nameParts", inPlace := ["internal/bytealg.IndexByteString", "internal/bytealg.IndexString"], unfollowed := true, recurses := true, named := ["internal/bytealg.MaxLen"], apart := false, narrowed := true }
def NamePartsUptoSaid : Prop := namePartsUptoRow.holds Try.pinned (OpenSpec.upto namePartsSpec)

/-- 'foliatelaw05.NameSigns', WHERE WHAT IT READS IS OF BULK AT MOST 1048576: true; the input reads as it did. -/
def nameSignsUptoRow : OpenClaim := { program := "ytahpogbcodfdmaa", sum := "6c0b02702d0f05225c3fa93740e4083be48b065a028fe552a34e7ac36a7cf01a", func := "foliate/foliatelaw05.NameSigns", spec := "nameSigns", inPlace := ["internal/bytealg.IndexByteString", "internal/bytealg.IndexString"], unfollowed := true, recurses := true, named := ["internal/bytealg.MaxLen"], apart := false, narrowed := true }
def NameSignsUptoSaid : Prop := nameSignsUptoRow.holds Try.pinned (OpenSpec.upto nameSignsSpec)

/-- 'foliatelaw05.NameDot', WHERE WHAT IT READS IS OF BULK AT MOST 1048576: true; the input reads as it did. -/
def nameDotUptoRow : OpenClaim := { program := "ytahpogbcodfdmaa", sum := "6c0b02702d0f05225c3fa93740e4083be48b065a028fe552a34e7ac36a7cf01a", func := "foliate/foliatelaw05.NameDot", spec := "nameDot", inPlace := ["internal/bytealg.IndexByteString", "internal/bytealg.IndexString"], unfollowed := true, recurses := true, named := ["internal/bytealg.MaxLen"], apart := false, narrowed := true }
def NameDotUptoSaid : Prop := nameDotUptoRow.holds Try.pinned (OpenSpec.upto nameDotSpec)

end Rows
end Go.Proofs.Ytahpogbcodfdmaa
