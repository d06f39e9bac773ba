/- strings.Cut; name.Split, Join. -/
import Derived.Test.YtahpogbcodfdmaaNmSplit
namespace Go.Proofs.Ytahpogbcodfdmaa
open Go Go.RowKit
set_option linter.unusedVariables false

set_option maxHeartbeats 1000000 in
theorem scut_any (s : ByteArray) (w : World) (hs : s.size ≤ 70368744177664) : Calls Try.prog 20 #[.string s, .string ⟨#[46]⟩] w fun e w' => e = .returned (.tuple #[.string (cutL s), .string (cutR s), .bool (cutB s)]) ∧ Below w.heap.size w w' := by
  have hc := fun w => cut_any s w hs
  generalize cutL s = x at *
  generalize cutR s = y at *
  generalize cutB s = z at *
  go_enter Try.func20, Try.ntmps20
  go_wp2_with (go_at_call 29; refine (hc _).mono ?_; rintro e w' ⟨rfl, hb⟩)
  go_ret3
  exact ⟨rfl, hb⟩

theorem cutL_size (s : ByteArray) : (cutL s).size ≤ s.size := by
  unfold cutL; split
  · rw [ByteArray.size_extract]; omega
  · omega
theorem cutR_size (s : ByteArray) : (cutR s).size ≤ s.size := by
  unfold cutR; split
  · rw [ByteArray.size_extract]; omega
  · exact Nat.zero_le _

/-- A text split. -/
def splitB (s : ByteArray) : Bool := cutB s && mayN (cutL s).data.toList && mayN (cutR s).data.toList
def splitL (s : ByteArray) : ByteArray := if splitB s = true then cutL s else ⟨#[]⟩
def splitR (s : ByteArray) : ByteArray := if splitB s = true then cutR s else ⟨#[]⟩

set_option maxHeartbeats 1000000 in
theorem Split_any (s : ByteArray) (w : World) (hs : s.size ≤ 70368744177664) : Calls Try.prog 10 #[.string s] w fun e w' => e = .returned (.tuple #[.string (splitL s), .string (splitR s), .bool (splitB s)]) ∧ Below w.heap.size w w' := by
  have hc := fun w => scut_any s w hs
  have z1 := cutL_size s
  have z2 := cutR_size s
  have hm1 := fun w => nmay_any (cutL s) w (by omega)
  have hm2 := fun w => nmay_any (cutR s) w (by omega)
  unfold splitL splitR splitB
  generalize mayN (cutL s).data.toList = m1 at *
  generalize mayN (cutR s).data.toList = m2 at *
  generalize cutL s = x at *
  generalize cutR s = y at *
  generalize cutB s = z at *
  clear hs z1 z2
  cases z
  · simp only [Bool.false_and, Bool.false_eq_true, if_false]
    go_enter Try.func10, Try.ntmps10
    go_wp2_with (go_at_call 20; refine (hc _).mono ?_; rintro e w' ⟨rfl, hb⟩)
    go_ret3
    exact ⟨rfl, hb⟩
  cases m1
  · simp only [Bool.and_false, Bool.false_and, Bool.false_eq_true, if_false]
    go_enter Try.func10, Try.ntmps10
    go_wp2_with (first | (go_at_call 20; refine (hc _).mono ?_; rintro e w1 ⟨rfl, hb⟩) | (go_at_call 14; refine (hm1 _).mono ?_; rintro e w2 ⟨rfl, hb2⟩))
    go_ret3
    exact ⟨rfl, hb.trans (hb2.mono hb.size)⟩
  cases m2
  · simp only [Bool.and_false, Bool.false_eq_true, if_false]
    go_enter Try.func10, Try.ntmps10
    go_wp2_with (first | (go_at_call 20; refine (hc _).mono ?_; rintro e w1 ⟨rfl, hb⟩) | (go_at_call 14; refine (hm1 _).mono ?_; rintro e w2 ⟨rfl, hb2⟩) | (go_at_call 14; refine (hm2 _).mono ?_; rintro e w3 ⟨rfl, hb3⟩))
    go_ret3
    exact ⟨rfl, ((hb.trans (hb2.mono hb.size)).trans (hb3.mono (hb.trans (hb2.mono hb.size)).size))⟩
  · simp only [Bool.and_true, if_true]
    go_enter Try.func10, Try.ntmps10
    go_wp2_with (first | (go_at_call 20; refine (hc _).mono ?_; rintro e w1 ⟨rfl, hb⟩) | (go_at_call 14; refine (hm1 _).mono ?_; rintro e w2 ⟨rfl, hb2⟩) | (go_at_call 14; refine (hm2 _).mono ?_; rintro e w3 ⟨rfl, hb3⟩))
    go_ret3
    exact ⟨rfl, ((hb.trans (hb2.mono hb.size)).trans (hb3.mono (hb.trans (hb2.mono hb.size)).size))⟩

/-- Two texts joined. -/
def joinN (a b : ByteArray) : ByteArray := if (mayN a.data.toList && mayN b.data.toList) = true then a ++ ⟨#[46]⟩ ++ b else ⟨#[]⟩

set_option maxHeartbeats 1000000 in
theorem Join_any (a b : ByteArray) (w : World) (ha : a.size ≤ 70368744177664) (hb : b.size ≤ 70368744177664) : Calls Try.prog 18 #[.string a, .string b] w fun e w' => e = .returned (.string (joinN a b)) ∧ Below w.heap.size w w' := by
  have hm1 := fun w => nmay_any a w (by omega)
  have hm2 := fun w => nmay_any b w (by omega)
  unfold joinN
  generalize mayN a.data.toList = m1 at *
  generalize mayN b.data.toList = m2 at *
  have e0 : ∀ W, (Op.stringOp .add a ⟨#[46]⟩).run Try.prog W = .ok (.string (a ++ ⟨#[46]⟩)) W := fun W => run_string_add_sum W a ⟨#[46]⟩ (by show a.size + 1 ≤ _; omega)
  have e1 : ∀ W, (Op.stringOp .add (a ++ ⟨#[46]⟩) b).run Try.prog W = .ok (.string (a ++ ⟨#[46]⟩ ++ b)) W := fun W => run_string_add_sum W (a ++ ⟨#[46]⟩) b (by rw [ByteArray.size_append]; show a.size + 1 + _ ≤ _; omega)
  generalize a ++ ⟨#[46]⟩ ++ b = ab at *
  generalize a ++ ⟨#[46]⟩ = ad at *
  clear ha hb
  cases m1
  · simp only [Bool.false_and, Bool.false_eq_true, if_false]
    go_enter Try.func18, Try.ntmps18
    go_wp2_with (go_at_call 14; refine (hm1 _).mono ?_; rintro e w' ⟨rfl, hb⟩)
    go_ret
    exact ⟨rfl, hb⟩
  cases m2
  · simp only [Bool.and_false, Bool.false_eq_true, if_false]
    go_enter Try.func18, Try.ntmps18
    go_wp2_with (first | (go_at_call 14; refine (hm1 _).mono ?_; rintro e w1 ⟨rfl, hb⟩) | (go_at_call 14; refine (hm2 _).mono ?_; rintro e w2 ⟨rfl, hb2⟩))
    go_ret
    exact ⟨rfl, hb.trans (hb2.mono hb.size)⟩
  · simp only [Bool.and_true, if_true]
    go_enter Try.func18, Try.ntmps18
    go_wp2_with (first | (go_at_call 14; refine (hm1 _).mono ?_; rintro e w1 ⟨rfl, hb⟩) | (go_at_call 14; refine (hm2 _).mono ?_; rintro e w2 ⟨rfl, hb2⟩))
    go_ret
    exact ⟨rfl, hb.trans (hb2.mono hb.size)⟩
end Go.Proofs.Ytahpogbcodfdmaa
