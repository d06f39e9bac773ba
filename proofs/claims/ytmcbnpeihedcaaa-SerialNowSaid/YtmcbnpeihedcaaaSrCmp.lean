/- serial.writes, last, the closures of writers, cmp.Compare. -/
import Derived.Test.YtmcbnpeihedcaaaSrWords
namespace Go.Proofs.Ytmcbnpeihedcaaa
set_option linter.unusedSimpArgs false
open Go Go.RowKit
set_option linter.unusedVariables false

/-- Does a try write? -/
def writesX (x : Rx) : Bool := x.en == 0 && decide (0 < x.W.length)

theorem writes_any (x : Rx) (w : World) : Calls Try.prog 25 #[.agg (encRx x).toArray] w fun e w' => e = .returned (.bool (writesX x)) ∧ Below w.heap.size w w' := by
  simp only [encRx]
  have hb0 : Below w.heap.size w (w.alloc (.cells (encRx x).toArray 27)) := (Below.refl _ w).alloc (Nat.le_refl _) _
  simp only [encRx] at hb0
  unfold writesX
  generalize x.W.length = n at *
  generalize x.en = e at *
  cases h : (e == 0) with
  | false =>
    simp only [Bool.false_and]
    go_enter Try.func25, Try.ntmps25
    go_wp2
    go_ret
    exact ⟨rfl, hb0⟩
  | true =>
    simp only [Bool.true_and]
    by_cases h2 : 0 < n
    · rw [decide_eq_true h2]
      have h3 : (0 : Int) < (n : Int) := by omega
      go_enter Try.func25, Try.ntmps25
      go_wp2
      go_ret
      exact ⟨rfl, hb0⟩
    · rw [decide_eq_false h2]
      have h3 : ¬ (0 : Int) < (n : Int) := by omega
      go_enter Try.func25, Try.ntmps25
      go_wp2
      go_ret
      exact ⟨rfl, hb0⟩

theorem wr1_any (x : Rx) (w : World) : Calls Try.prog 29 #[.agg (encRx x).toArray] w fun e w' => e = .returned (.bool (!writesX x)) ∧ Below w.heap.size w w' := by
  have hcon := writes_any x
  have hb0 : Below w.heap.size w (w.alloc (.cells (encRx x).toArray 27)) := (Below.refl _ w).alloc (Nat.le_refl _) _
  simp only [encRx] at hb0 hcon ⊢
  generalize writesX x = q at *
  go_enter Try.func29, Try.ntmps29
  go_wp2_with (go_at_call 25; refine (hcon _).mono ?_; rintro e w' ⟨rfl, hb'⟩)
  go_ret
  exact ⟨rfl, hb0.trans (hb'.mono (by simp))⟩

/-- A try's last version. -/
def lastX (x : Rx) : Int := if writesX x = true then x.wv else x.rv
theorem last_any (x : Rx) (w : World) : Calls Try.prog 24 #[.agg (encRx x).toArray] w fun e w' => e = .returned (.int .i64 (lastX x)) ∧ Below w.heap.size w w' := by
  have hcon := writes_any x
  have hb0 : Below w.heap.size w (w.alloc (.cells (encRx x).toArray 27)) := (Below.refl _ w).alloc (Nat.le_refl _) _
  unfold lastX
  simp only [encRx] at hb0 hcon ⊢
  generalize writesX x = q at *
  cases q with
  | false =>
    simp only [Bool.false_eq_true, if_false]
    go_enter Try.func24, Try.ntmps24
    go_wp2_with fail
    refine (hcon _).mono ?_
    rintro e w' ⟨rfl, hb'⟩
    obtain ⟨hc, hf⟩ := bcell hb'
    go_wp2
    go_ret
    exact ⟨rfl, hb0.trans (hb'.mono (by simp))⟩
  | true =>
    simp only [if_true]
    go_enter Try.func24, Try.ntmps24
    go_wp2_with fail
    refine (hcon _).mono ?_
    rintro e w' ⟨rfl, hb'⟩
    obtain ⟨hc, hf⟩ := bcell hb'
    go_wp2
    go_ret
    exact ⟨rfl, hb0.trans (hb'.mono (by simp))⟩

/-- Which of two numbers is ahead. -/
def cmpI (x y : Int) : Int := if x < y then -1 else if y < x then 1 else 0

theorem isnan_any (x : Int) (w : World) : Calls Try.prog 49 #[.int .i64 x] w fun e w' => e = .returned (.bool false) ∧ w = w' := by
  go_enter Try.func49, Try.ntmps49
  go_wp2
  go_ret
  exact ⟨rfl, rfl⟩

theorem compare_any (x y : Int) (w : World) : Calls Try.prog 32 #[.int .i64 x, .int .i64 y] w fun e w' => e = .returned (.int .i64 (cmpI x y)) ∧ w = w' := by
  have hn := fun x => isnan_any x w
  by_cases h : x < y
  · rw [show cmpI x y = -1 from by unfold cmpI; rw [if_pos h]]
    go_enter Try.func32, Try.ntmps32
    go_wp2_with (go_at_call 49; refine (hn _).mono ?_; rintro e w' ⟨rfl, rfl⟩)
    go_ret
    exact ⟨rfl, rfl⟩
  · by_cases h2 : y < x
    · rw [show cmpI x y = 1 from by unfold cmpI; rw [if_neg h, if_pos h2]]
      go_enter Try.func32, Try.ntmps32
      go_wp2_with (go_at_call 49; refine (hn _).mono ?_; rintro e w' ⟨rfl, rfl⟩)
      go_ret
      exact ⟨rfl, rfl⟩
    · rw [show cmpI x y = 0 from by unfold cmpI; rw [if_neg h, if_neg h2]]
      go_enter Try.func32, Try.ntmps32
      go_wp2_with (go_at_call 49; refine (hn _).mono ?_; rintro e w' ⟨rfl, rfl⟩)
      go_ret
      exact ⟨rfl, rfl⟩

theorem wr2_any (x y : Rx) (w : World) : Calls Try.prog 31 #[.agg (encRx x).toArray, .agg (encRx y).toArray] w fun e w' => e = .returned (.int .i64 (cmpI x.wv y.wv)) ∧ Below w.heap.size w w' := by
  have hb0 : Below w.heap.size w ((w.alloc (.cells (encRx x).toArray 27)).alloc (.cells (encRx y).toArray 27)) := ((Below.refl _ w).alloc (Nat.le_refl _) _).alloc (by simp) _
  have hc := fun w => compare_any x.wv y.wv w
  simp only [encRx] at hb0 ⊢
  generalize cmpI x.wv y.wv = q at *
  go_enter Try.func31, Try.ntmps31
  go_wp2_with (go_at_call 32; refine (hc _).mono ?_; rintro e w' ⟨rfl, rfl⟩)
  go_ret
  exact ⟨rfl, hb0⟩
end Go.Proofs.Ytmcbnpeihedcaaa
