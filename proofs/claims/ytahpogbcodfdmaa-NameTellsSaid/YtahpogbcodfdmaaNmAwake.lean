/- awake of layer 5: the chapter's examples. -/
import Derived.Test.YtahpogbcodfdmaaNmPlain
import Derived.Test.YtahpogbcodfdmaaNmJoin
namespace Go.Proofs.Ytahpogbcodfdmaa
open Go Go.RowKit
set_option linter.unusedVariables false

theorem may_lit (cs : List Nat) (l : List UInt8) (h : isN cs) (hl : cs.flatMap encS = l) : mayN l = true := hl ▸ may_mk h
theorem may_a1 : mayN [97, 49] = true := may_lit [97, 49] _ ⟨by decide, by decide, by decide⟩ (by decide)
theorem may_a : mayN [97] = true := may_lit [97] _ ⟨by decide, by decide, by decide⟩ (by decide)
theorem may_b : mayN [98] = true := may_lit [98] _ ⟨by decide, by decide, by decide⟩ (by decide)
theorem may_1a : mayN [49, 97] = false := by
  have hs : signs [49, 97] = [49, 97] := signs_name (cs := [49, 97]) (by decide)
  rw [Bool.eq_false_iff]
  intro h
  have := (mayN_iff.1 h).1
  rw [hs] at this
  revert this
  decide
theorem len_ae : lenN [195, 164] = 1 := len_mk (cs := [228]) ⟨by decide, by decide, by decide⟩
theorem lt_ab : ltN [97] [98] = true := by
  unfold ltN
  rw [show signs [97] = [97] from signs_name (cs := [97]) (by decide), show signs [98] = [98] from signs_name (cs := [98]) (by decide)]
  decide

theorem cut_a1b : cutL ⟨#[97, 49, 46, 98]⟩ = ⟨#[97, 49]⟩ ∧ cutR ⟨#[97, 49, 46, 98]⟩ = ⟨#[98]⟩ ∧ cutB ⟨#[97, 49, 46, 98]⟩ = true := by
  have h : dotN [97, 49, 46, 98] = 2 := by decide
  unfold cutL cutR cutB
  simp only [h]
  exact ⟨rfl, rfl, rfl⟩
theorem split_a1b : splitB ⟨#[97, 49, 46, 98]⟩ = true ∧ splitL ⟨#[97, 49, 46, 98]⟩ = ⟨#[97, 49]⟩ ∧ splitR ⟨#[97, 49, 46, 98]⟩ = ⟨#[98]⟩ := by
  have h : splitB ⟨#[97, 49, 46, 98]⟩ = true := by
    unfold splitB
    rw [cut_a1b.1, cut_a1b.2.1, cut_a1b.2.2]
    show (true && mayN [97, 49] && mayN [98]) = true
    rw [may_a1, may_b]; rfl
  unfold splitL splitR
  rw [if_pos h, if_pos h, cut_a1b.1, cut_a1b.2.1]
  exact ⟨h, rfl, rfl⟩
theorem join_ab : joinN ⟨#[97]⟩ ⟨#[98]⟩ = ⟨#[97, 46, 98]⟩ := by
  unfold joinN
  rw [show mayN (⟨#[97]⟩ : ByteArray).data.toList = true from may_a, show mayN (⟨#[98]⟩ : ByteArray).data.toList = true from may_b]
  rfl

set_option maxRecDepth 100000 in
set_option maxHeartbeats 4000000 in
theorem awake_any (w : World) : Calls Try.prog 9 #[] w fun e w' => e = .returned (.bool true) ∧ Below w.heap.size w w' := by
  have c1 := fun w => Split_any ⟨#[97, 49, 46, 98]⟩ w (by decide)
  rw [split_a1b.1, split_a1b.2.1, split_a1b.2.2] at c1
  have c2 : ∀ W : World, Calls Try.prog 14 #[.string ⟨#[97, 49]⟩] W fun e w' => e = .returned (.bool true) ∧ Below W.heap.size W w' := fun W => by
    have := nmay_any ⟨#[97, 49]⟩ W (by decide)
    rwa [show mayN (⟨#[97, 49]⟩ : ByteArray).data.toList = true from may_a1] at this
  have c3 : ∀ W : World, Calls Try.prog 14 #[.string ⟨#[49, 97]⟩] W fun e w' => e = .returned (.bool false) ∧ Below W.heap.size W w' := fun W => by
    have := nmay_any ⟨#[49, 97]⟩ W (by decide)
    rwa [show mayN (⟨#[49, 97]⟩ : ByteArray).data.toList = false from may_1a] at this
  have c4 : ∀ W : World, Calls Try.prog 15 #[.string ⟨#[195, 164]⟩] W fun e w' => e = .returned (.int .i64 1) ∧ Below W.heap.size W w' := fun W => by
    have := Len_any ⟨#[195, 164]⟩ W (by decide)
    rwa [show lenN (⟨#[195, 164]⟩ : ByteArray).data.toList = 1 from len_ae] at this
  have c5 : ∀ W : World, Calls Try.prog 17 #[.string ⟨#[97]⟩, .string ⟨#[98]⟩] W fun e w' => e = .returned (.bool true) ∧ Below W.heap.size W w' := fun W => by
    have := NLess_any ⟨#[97]⟩ ⟨#[98]⟩ W (by decide) (by decide)
    rwa [show ltN (⟨#[97]⟩ : ByteArray).data.toList (⟨#[98]⟩ : ByteArray).data.toList = true from lt_ab] at this
  have c6 := fun W => Join_any ⟨#[97]⟩ ⟨#[98]⟩ W (by decide) (by decide)
  rw [join_ab] at c6
  go_enter Try.func9, Try.ntmps9
  go_wp2_with fail
  refine (c1 _).mono ?_
  rintro e w1 ⟨rfl, hb1⟩
  go_wp2_with fail
  refine (c2 _).mono ?_
  rintro e w2 ⟨rfl, hb2⟩
  go_wp2_with fail
  refine (c3 _).mono ?_
  rintro e w3 ⟨rfl, hb3⟩
  go_wp2_with fail
  refine (c4 _).mono ?_
  rintro e w4 ⟨rfl, hb4⟩
  go_wp2_with fail
  refine (c5 _).mono ?_
  rintro e w5 ⟨rfl, hb5⟩
  go_wp2_with fail
  refine (c6 _).mono ?_
  rintro e w6 ⟨rfl, hb6⟩
  go_wp2
  go_ret
  have h2 := hb1.trans (hb2.mono hb1.size)
  have h3 := h2.trans (hb3.mono h2.size)
  have h4 := h3.trans (hb4.mono h3.size)
  have h5 := h4.trans (hb5.mono h4.size)
  exact ⟨rfl, h5.trans (hb6.mono h5.size)⟩
end Go.Proofs.Ytahpogbcodfdmaa
