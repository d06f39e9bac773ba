/- strings.Cut at a point; name.Join, Split. -/
import Derived.Test.YtahpogbcodfdmaaNmLess
import Derived.Lib.Bytealg
import Derived.Lib.IndexBytes
import Derived.Deep.RegionHeld3
import Derived.Deep.DrawnRows
namespace Go.Proofs.Ytahpogbcodfdmaa
open Go Go.RowKit
set_option linter.unusedVariables false
attribute [local go_sem ↓] Go.wp_at_zero Go.wp_at_succ

/-- Where the first point is; how many bytes there are, if there is none. -/
def dotN (l : List UInt8) : Nat := l.findIdx (· == 46)

theorem indexByte_dot : ∀ l : List UInt8, Lib.indexByte l 46 = if dotN l < l.length then (dotN l : Int) else -1
  | [] => rfl
  | x :: l => by
    have ih := indexByte_dot l
    unfold dotN at *
    rw [Lib.indexByte, List.findIdx_cons]
    cases h : x == 46 with
    | true => simp
    | false =>
      simp only [Bool.false_eq_true, if_false, cond_false, List.length_cons]
      rw [ih]
      by_cases h2 : l.findIdx (· == 46) < l.length
      · rw [if_pos h2, if_pos (show l.findIdx (· == 46) + 1 < l.length + 1 by omega), if_neg (by simp)]
        rfl
      · rw [if_neg h2, if_neg (show ¬ l.findIdx (· == 46) + 1 < l.length + 1 by omega)]
        rfl

theorem firstIdx_dot (s : ByteArray) : firstIdx s 46 = if dotN s.data.toList < s.data.toList.length then (dotN s.data.toList : Int) else -1 := by
  rw [Lib.firstIdx_eq, indexByte_dot]

set_option maxHeartbeats 400000 in
theorem indexByte_any (s : ByteArray) (w : World) : Calls Try.prog 33 #[.string s, .int .u8 46] w fun e w' => e = .returned (.int .i64 (firstIdx s 46)) ∧ w = w' := by
  have hib : ∀ W, (callFunc 37 #[.string s, .int .u8 46]).run Try.prog W = .ok (.value (.int .i64 (firstIdx s 46))) W := fun W => by
    rw [run_callFunc_extern (e := Extern.BytealgIndexByte.indexByte) Try.func37 (by kernel_rfl) (by kernel_rfl) (by kernel_rfl) (by kernel_rfl), run_indexByte_string]
    rfl
  generalize firstIdx s 46 = q at *
  go_enter Try.func33, Try.ntmps33
  go_wp2
  go_ret
  exact ⟨rfl, rfl⟩

set_option maxHeartbeats 1000000 in
theorem index_any (s : ByteArray) (w : World) : Calls Try.prog 32 #[.string s, .string ⟨#[46]⟩] w fun e w' => e = .returned (.int .i64 (firstIdx s 46)) ∧ w = w' := by
  have hib := fun w => indexByte_any s w
  cases hb : [46] == s.toList with
  | true =>
    have h0 : firstIdx s 46 = 0 := by
      have : s.data.toList = [46] := by
        have h1 := (eq_of_beq hb).symm
        rwa [Lib.toList_data] at h1
      rw [firstIdx_dot, this]
      rfl
    rw [h0]
    clear h0 hib
    go_enter Try.func32, Try.ntmps32
    go_wp2
    go_ret
    exact ⟨rfl, rfl⟩
  | false =>
    generalize firstIdx s 46 = q at *
    go_enter Try.func32, Try.ntmps32
    go_wp2_with (go_at_call 33; refine (hib _).mono ?_; rintro e w' ⟨rfl, rfl⟩)
    go_ret
    exact ⟨rfl, rfl⟩

/-- What is ahead of the first point, what is behind it; of a text without one: all, and nothing. -/
def cutL (s : ByteArray) : ByteArray := if dotN s.data.toList < s.data.toList.length then s.extract 0 (dotN s.data.toList) else s
def cutR (s : ByteArray) : ByteArray := if dotN s.data.toList < s.data.toList.length then s.extract (dotN s.data.toList + 1) s.size else ⟨#[]⟩
def cutB (s : ByteArray) : Bool := decide (dotN s.data.toList < s.data.toList.length)

set_option maxHeartbeats 1000000 in
theorem cut_any (s : ByteArray) (w : World) (hs : s.size ≤ 70368744177664) : Calls Try.prog 29 #[.string s, .string ⟨#[46]⟩] w fun e w' => e = .returned (.tuple #[.string (cutL s), .string (cutR s), .bool (cutB s)]) ∧ Below w.heap.size w w' := by
  have hib := fun w => index_any s w
  have hsz : s.size = s.data.toList.length := by rw [Array.length_toList]; rfl
  have hf := firstIdx_dot s
  unfold cutL cutR cutB
  rw [← hsz] at *
  generalize dotN s.data.toList = d at *
  clear hsz
  by_cases h : d < s.size
  · rw [if_pos h] at hf
    rw [hf] at hib
    rw [if_pos h, if_pos h, decide_eq_true h]
    clear hf
    have h1 : (0 : Int) ≤ (d : Int) := by omega
    have h2 : (d : Int) ≤ (s.size : Int) := by omega
    have h3 : (0 : Int) ≤ (d : Int) + 1 := by omega
    have h4 : (d : Int) + 1 ≤ (s.size : Int) := by omega
    go_enter Try.func29, Try.ntmps29
    go_wp2_with (go_at_call 32; refine (hib _).mono ?_; rintro e w' ⟨rfl, rfl⟩)
    go_region
    all_goals (try go_wp2)
    all_goals go_ret3
    all_goals exact ⟨rfl, below_drewN (Below.refl _ _) 1⟩
  · rw [if_neg h] at hf
    rw [hf] at hib
    rw [if_neg h, if_neg h, decide_eq_false h]
    clear hf
    go_enter Try.func29, Try.ntmps29
    go_wp2_with (go_at_call 32; refine (hib _).mono ?_; rintro e w' ⟨rfl, rfl⟩)
    go_ret3
    exact ⟨rfl, Below.refl _ _⟩
end Go.Proofs.Ytahpogbcodfdmaa
