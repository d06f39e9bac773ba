/- lock.May, and its closure. -/
import Derived.Test.YtmcbnpeihedcaaaLkFunc
namespace Go.Proofs.Ytmcbnpeihedcaaa
set_option linter.unusedSimpArgs false
open Go Go.RowKit


/-- May a lock not be? -/
def oddL (now : Int) (x : Lk) : Bool := decide (x.v < 0) || (decide (now < x.v) || (decide (x.o < -1) || decide (4 ≤ x.o)))

set_option maxHeartbeats 400000 in
theorem lodd_any (x : Lk) (now : Int) (B : Nat) (w : World) (hc : w.cell? ⟨B, 0, none⟩ = some (.int .i64 now)) (hB : B < w.heap.size) :
    Calls Try.prog 81 #[.agg (encL x).toArray, .pointer (some ⟨B, 0, none⟩)] w fun e w' => e = .returned (.bool (oddL now x)) ∧ Below w.heap.size w w' := by
  simp only [encL]
  by_cases h1 : x.v < 0
  · rw [show oddL now x = true from by simp [oddL, h1]]
    go_enter Try.func81, Try.ntmps81
    go_wp2
    go_ret
    exact ⟨rfl, (Below.refl _ _).alloc (Nat.le_refl _) _⟩
  · by_cases h2 : now < x.v
    · rw [show oddL now x = true from by simp [oddL, h2]]
      go_enter Try.func81, Try.ntmps81
      go_wp2
      go_ret
      exact ⟨rfl, (Below.refl _ _).alloc (Nat.le_refl _) _⟩
    · by_cases h3 : x.o < -1
      · rw [show oddL now x = true from by simp [oddL, h3]]
        go_enter Try.func81, Try.ntmps81
        go_wp2
        go_ret
        exact ⟨rfl, (Below.refl _ _).alloc (Nat.le_refl _) _⟩
      · by_cases h4 : 4 ≤ x.o
        · rw [show oddL now x = true from by simp [oddL, h4]]
          go_enter Try.func81, Try.ntmps81
          go_wp2
          go_ret
          exact ⟨rfl, (Below.refl _ _).alloc (Nat.le_refl _) _⟩
        · rw [show oddL now x = false from by simp [oddL, h1, h2, h3, h4]]
          go_enter Try.func81, Try.ntmps81
          go_wp2
          go_ret
          exact ⟨rfl, (Below.refl _ _).alloc (Nat.le_refl _) _⟩

/-- May locks be? -/
def mayL (now mx : Int) (ls : List Lk) : Bool := decide (mx ≤ 1000) && (decide (0 ≤ now) && (decide (now ≤ mx) && (decide (0 < ls.length) && (decide (ls.length ≤ 8) && !ls.any (oddL now)))))

theorem lodd_pred (now : Int) (B : Nat) (w : World) (hc : w.cell? ⟨B, 0, none⟩ = some (.int .i64 now)) (hB : B < w.heap.size) :
    PredB Try.prog 81 #[.pointer (some ⟨B, 0, none⟩)] (fun x : Lk => Value.agg (encL x).toArray) (oddL now) w :=
  fun W x hb => lodd_any x now B W ((hb.cell (p := ⟨B, 0, none⟩) hB).trans hc) (Nat.lt_of_lt_of_le hB hb.size)

set_option maxHeartbeats 1000000 in
theorem lmay_any (now mx : Int) (sv : Value) (ls : List Lk) (w : World) (hv : Sl w 2 sv ls.length (ls.flatMap encL)) :
    Calls Try.prog 74 #[.agg #[.int .i64 now, .int .i64 mx, sv]] w fun e w' => e = .returned (.bool (mayL now mx ls)) ∧ Below w.heap.size w w' := by
  have eg : ∀ args w, (callFunc 81 args).run Try.prog w = .ok (.enter 81 args) w := enters_of Try.func81 (by kernel_rfl) rfl
  have hb0 : Below w.heap.size w (w.alloc (.cells #[.int .i64 now, .int .i64 mx, sv] 43)) := (Below.refl _ w).alloc (Nat.le_refl _) _
  have hcon := contains_lock (oddL now) 81 #[.pointer (some ⟨w.heap.size, 0, none⟩)] eg sv ls _ (lodd_pred now w.heap.size (w.alloc (.cells #[.int .i64 now, .int .i64 mx, sv] 43)) (by simp) (by simp)) (hv.below hb0)
  obtain ⟨A, c, rfl, hc, hm⟩ := hv.form
  clear hv eg
  generalize hq : ls.any (oddL now) = q at hcon
  have HQ := Lib.hid hq
  clear hq
  generalize hn : ls.length = n at *
  have HN := Lib.hid hn
  clear hn
  have hmm : mayL now mx ls = (decide (mx ≤ 1000) && (decide (0 ≤ now) && (decide (now ≤ mx) && (decide (0 < n) && (decide (n ≤ 8) && !q))))) := by rw [mayL, HN.out, HQ.out]
  rw [hmm]
  clear hmm HQ HN
  by_cases h1 : mx ≤ 1000
  · by_cases h2 : 0 ≤ now
    · by_cases h3 : now ≤ mx
      · by_cases h4 : 0 < n
        · by_cases h5 : n ≤ 8
          · simp only [h1, h2, h3, h4, h5, decide_true, Bool.true_and]
            have h4' : (0 : Int) < (n : Int) := by omega
            have h5' : (n : Int) ≤ 8 := by omega
            go_enter Try.func74, Try.ntmps74
            go_wp2_with (go_at_call 82; refine hcon.mono ?_; rintro e w' ⟨rfl, hb'⟩)
            go_ret
            exact ⟨rfl, hb0.trans (hb'.mono (by simp))⟩
          · simp only [h5, decide_false, Bool.false_and, Bool.and_false]
            have h4' : (0 : Int) < (n : Int) := by omega
            have h5' : ¬ (n : Int) ≤ 8 := by omega
            clear hcon
            go_enter Try.func74, Try.ntmps74
            go_wp2
            go_ret
            exact ⟨rfl, hb0⟩
        · simp only [h4, decide_false, Bool.false_and, Bool.and_false]
          obtain rfl : n = 0 := by omega
          clear hcon
          go_enter Try.func74, Try.ntmps74
          go_wp2
          go_ret
          exact ⟨rfl, hb0⟩
      · simp only [h3, decide_false, Bool.false_and, Bool.and_false]
        clear hcon
        go_enter Try.func74, Try.ntmps74
        go_wp2
        go_ret
        exact ⟨rfl, hb0⟩
    · simp only [h2, decide_false, Bool.false_and, Bool.and_false]
      clear hcon
      go_enter Try.func74, Try.ntmps74
      go_wp2
      go_ret
      exact ⟨rfl, hb0⟩
  · simp only [h1, decide_false, Bool.false_and]
    clear hcon
    go_enter Try.func74, Try.ntmps74
    go_wp2
    go_ret
    exact ⟨rfl, hb0⟩
end Go.Proofs.Ytmcbnpeihedcaaa
