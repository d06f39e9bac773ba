/- lock.May, and its closure. -/
import Derived.Test.YtngimbfojccikaaLkFunc
namespace Go.Proofs.Ytngimbfojccikaa
set_option linter.unusedSimpArgs false
open Go Go.RowKit

set_option maxHeartbeats 2000000 in
theorem equal_lock (v1 v2 : Value) (xs ys : List (Lk)) (w : World) (hv : Sl w 2 v1 xs.length (xs.flatMap encL)) (hv2 : Sl w 2 v2 ys.length (ys.flatMap encL)) :
    Calls Try.prog 57 #[v1, v2] w fun e w' => e = .returned (.bool (eqL lkEq xs ys)) ∧ Below w.heap.size w w' := by
  have hk : ∀ x, (encL x).length = 2 := fun _ => rfl
  by_cases hlen : xs.length = ys.length
  · obtain ⟨A1, c1, rfl, hc1, hm1⟩ := hv.form
    obtain ⟨A2, c2, rfl, hc2, hm2⟩ := hv2.form
    rcases Nat.eq_zero_or_pos xs.length with h0 | h0
    · obtain rfl : xs = [] := List.eq_nil_of_length_eq_zero h0
      obtain rfl : ys = [] := List.eq_nil_of_length_eq_zero (by rw [← hlen]; rfl)
      clear hlen h0 hv hv2
      go_enter Try.func57, Try.ntmps57
      go_wp2
      refine wp_loop_rounds 1 ?_
      rw [rounds_succ]
      go_wp2
      go_ret
      exact ⟨rfl, Below.refl _ _⟩
    · have hA : ∃ a, A1 = some a := by
        rcases hv.2 with ⟨h, h'⟩ | ⟨a, c, h, _⟩
        · omega
        · injection h with h; exact ⟨a, h⟩
      obtain ⟨a1, rfl⟩ := hA
      have hA : ∃ a, A2 = some a := by
        rcases hv2.2 with ⟨h, h'⟩ | ⟨a, c, h, _⟩
        · omega
        · injection h with h; exact ⟨a, h⟩
      obtain ⟨a2, rfl⟩ := hA
      have hx := Sl.elem encL hk hv
      have hy := Sl.elem encL hk hv2
      clear hv hv2
      obtain ⟨n, hn⟩ : ∃ n, xs.length = n := ⟨_, rfl⟩
      have hn2 : ys.length = n := by rw [← hlen, hn]
      rw [hn, hn2]
      have hbig : n ≤ 9223372036854775807 := by unfold maxLen at hm1; omega
      have HN := Lib.hid hn
      have HN2 := Lib.hid hn2
      have HL := Lib.hid hlen
      clear hn hn2 hlen hc1 hc2 hm1 hm2 hk
      have s1 := (hx w (Below.refl _ _) 0 h0).1
      have s2 := (hy w (Below.refl _ _) 0 (by rw [← HL.out]; exact h0)).1
      obtain ⟨b1, o1, t1⟩ := a1
      obtain ⟨b2, o2, t2⟩ := a2
      simp only at s1 s2
      subst s1 s2
      go_enter Try.func57, Try.ntmps57
      go_wp2
      go_loopg [13] n (fun gg s13 wr => ∃ kk : Nat, kk ≤ n ∧ n - kk ≤ gg ∧ s13 = .int .i64 kk ∧ Hid (Below w.heap.size w wr) ∧ Hid (∀ j (h : j < xs.length) (h2 : j < ys.length), j < kk → lkEq xs[j] ys[j] = true))
      case atStart => exact ⟨0, Nat.zero_le _, by omega, rfl, Below.refl _ w, fun j _ _ hj => absurd hj (Nat.not_lt_zero _)⟩
      case round =>
        obtain ⟨kk, hkk, hg, rfl, BW, AA⟩ := hrel
        by_cases hlt : kk < n
        · have hltz : (kk : Int) < (n : Int) := by omega
          have hgez : (0 : Int) ≤ (kk : Int) := by omega
          have hlt1 : kk < xs.length := by rw [HN.out]; exact hlt
          have hlt2 : kk < ys.length := by rw [HN2.out]; exact hlt
          have lx := (hx wr BW.out kk hlt1).2.2
          have ly := (hy wr BW.out kk hlt2).2.2
          clear hx hy
          have hne := fun w => neq_lock xs[kk] ys[kk] w
          generalize hX : xs[kk] = x at lx hne
          generalize hY : ys[kk] = y at ly hne
          have HX := Lib.hid hX
          have HY := Lib.hid hY
          clear hX hY
          (have a0 := lx 0 _ rfl; have a1 := lx 1 _ rfl; have b0 := ly 0 _ rfl; have b1 := ly 1 _ rfl; simp only [Nat.add_zero] at a0 b0)
          clear lx ly
          simp only [encL] at hne
          cases hq : lkEq x y with
          | true =>
            rw [hq] at hne
            skip
            have HQ := Lib.hid hq
            clear hq
            go_wp2_with fail
            go_quiet (fail)
            go_wp2
            go_roundg (n - (kk + 1))
            case measure => omega
            case rel =>
              refine ⟨kk + 1, by omega, by omega, by go_num, below_drewN BW.out _, (show Hid _ from fun j h h2 hj => ?_)⟩
              by_cases e : j = kk
              · subst e
                rw [HX.out, HY.out]; exact HQ.out
              · exact AA.out j h h2 (by omega)
          | false =>
            rw [hq] at hne
            skip
            have HQ := Lib.hid hq
            clear hq
            go_wp2_with fail
            go_quiet (fail)
            go_wp2
            go_ret
            refine ⟨?_, below_drewN BW.out _⟩
            have : eqL lkEq xs ys = false := by
              cases he : eqL lkEq xs ys with
              | false => rfl
              | true =>
                have := eqL_at HL.out kk hlt1 he
                rw [HX.out, HY.out, HQ.out] at this
                exact this.symm
            rw [this]
            rfl
        · have hltz : ¬ (kk : Int) < (n : Int) := by omega
          obtain rfl : n = kk := by omega
          clear hx hy
          go_wp2
          go_ret
          refine ⟨?_, BW.out⟩
          rw [eqL_all HL.out (fun j h => AA.out j h (by rw [← HL.out]; exact h) (by rw [HN.out] at h; exact h))]
          rfl
  · have he : eqL lkEq xs ys = false := by
      cases h : eqL lkEq xs ys with
      | false => rfl
      | true => exact absurd (eqL_len h) hlen
    obtain ⟨A1, c1, rfl, hc1, hm1⟩ := hv.form
    obtain ⟨A2, c2, rfl, hc2, hm2⟩ := hv2.form
    rw [he]
    clear hv hv2 he hk
    generalize xs.length = n at *
    generalize ys.length = m at *
    have hne : ((n : Int) != (m : Int)) = true := by simp; omega
    clear hlen
    go_enter Try.func57, Try.ntmps57
    go_wp2
    go_ret
    exact ⟨rfl, Below.refl _ _⟩

/-- May a lock not be? -/
def oddL (now : Int) (x : Lk) : Bool := decide (x.v < 0) || (decide (now < x.v) || (decide (x.o < -1) || decide (4 ≤ x.o)))

set_option maxHeartbeats 400000 in
theorem lodd_any (x : Lk) (now : Int) (B : Nat) (w : World) (hc : w.cell? ⟨B, 0, none⟩ = some (.int .i64 now)) (hB : B < w.heap.size) :
    Calls Try.prog 40 #[.agg (encL x).toArray, .pointer (some ⟨B, 0, none⟩)] w fun e w' => e = .returned (.bool (oddL now x)) ∧ Below w.heap.size w w' := by
  simp only [encL]
  by_cases h1 : x.v < 0
  · rw [show oddL now x = true from by simp [oddL, h1]]
    go_enter Try.func40, Try.ntmps40
    go_wp2
    go_ret
    exact ⟨rfl, (Below.refl _ _).alloc (Nat.le_refl _) _⟩
  · by_cases h2 : now < x.v
    · rw [show oddL now x = true from by simp [oddL, h2]]
      go_enter Try.func40, Try.ntmps40
      go_wp2
      go_ret
      exact ⟨rfl, (Below.refl _ _).alloc (Nat.le_refl _) _⟩
    · by_cases h3 : x.o < -1
      · rw [show oddL now x = true from by simp [oddL, h3]]
        go_enter Try.func40, Try.ntmps40
        go_wp2
        go_ret
        exact ⟨rfl, (Below.refl _ _).alloc (Nat.le_refl _) _⟩
      · by_cases h4 : 4 ≤ x.o
        · rw [show oddL now x = true from by simp [oddL, h4]]
          go_enter Try.func40, Try.ntmps40
          go_wp2
          go_ret
          exact ⟨rfl, (Below.refl _ _).alloc (Nat.le_refl _) _⟩
        · rw [show oddL now x = false from by simp [oddL, h1, h2, h3, h4]]
          go_enter Try.func40, Try.ntmps40
          go_wp2
          go_ret
          exact ⟨rfl, (Below.refl _ _).alloc (Nat.le_refl _) _⟩

/-- May locks be? -/
def mayL (now mx : Int) (ls : List Lk) : Bool := decide (mx ≤ 1000) && (decide (0 ≤ now) && (decide (now ≤ mx) && (decide (0 < ls.length) && (decide (ls.length ≤ 8) && !ls.any (oddL now)))))

theorem lodd_pred (now : Int) (B : Nat) (w : World) (hc : w.cell? ⟨B, 0, none⟩ = some (.int .i64 now)) (hB : B < w.heap.size) :
    PredB Try.prog 40 #[.pointer (some ⟨B, 0, none⟩)] (fun x : Lk => Value.agg (encL x).toArray) (oddL now) w :=
  fun W x hb => lodd_any x now B W ((hb.cell (p := ⟨B, 0, none⟩) hB).trans hc) (Nat.lt_of_lt_of_le hB hb.size)

set_option maxHeartbeats 1000000 in
theorem lmay_any (now mx : Int) (sv : Value) (ls : List Lk) (w : World) (hv : Sl w 2 sv ls.length (ls.flatMap encL)) :
    Calls Try.prog 22 #[.agg #[.int .i64 now, .int .i64 mx, sv]] w fun e w' => e = .returned (.bool (mayL now mx ls)) ∧ Below w.heap.size w w' := by
  have eg : ∀ args w, (callFunc 40 args).run Try.prog w = .ok (.enter 40 args) w := enters_of Try.func40 (by kernel_rfl) rfl
  have hb0 : Below w.heap.size w (w.alloc (.cells #[.int .i64 now, .int .i64 mx, sv] 30)) := (Below.refl _ w).alloc (Nat.le_refl _) _
  have hcon := contains_lock (oddL now) 40 #[.pointer (some ⟨w.heap.size, 0, none⟩)] eg sv ls _ (lodd_pred now w.heap.size (w.alloc (.cells #[.int .i64 now, .int .i64 mx, sv] 30)) (by simp) (by simp)) (hv.below hb0)
  obtain ⟨A, c, rfl, hc, hm⟩ := hv.form
  clear hv eg
  generalize hq : ls.any (oddL now) = q at hcon
  have HQ := Lib.hid hq
  clear hq
  generalize hn : ls.length = n at *
  have HN := Lib.hid hn
  clear hn
  have hmm : mayL now mx ls = (decide (mx ≤ 1000) && (decide (0 ≤ now) && (decide (now ≤ mx) && (decide (0 < n) && (decide (n ≤ 8) && !q))))) := by rw [mayL, HN.out, HQ.out]
  rw [hmm]
  clear hmm HQ HN
  by_cases h1 : mx ≤ 1000
  · by_cases h2 : 0 ≤ now
    · by_cases h3 : now ≤ mx
      · by_cases h4 : 0 < n
        · by_cases h5 : n ≤ 8
          · simp only [h1, h2, h3, h4, h5, decide_true, Bool.true_and]
            have h4' : (0 : Int) < (n : Int) := by omega
            have h5' : (n : Int) ≤ 8 := by omega
            go_enter Try.func22, Try.ntmps22
            go_wp2_with (go_at_call 41; refine hcon.mono ?_; rintro e w' ⟨rfl, hb'⟩)
            go_ret
            exact ⟨rfl, hb0.trans (hb'.mono (by simp))⟩
          · simp only [h5, decide_false, Bool.false_and, Bool.and_false]
            have h4' : (0 : Int) < (n : Int) := by omega
            have h5' : ¬ (n : Int) ≤ 8 := by omega
            clear hcon
            go_enter Try.func22, Try.ntmps22
            go_wp2
            go_ret
            exact ⟨rfl, hb0⟩
        · simp only [h4, decide_false, Bool.false_and, Bool.and_false]
          obtain rfl : n = 0 := by omega
          clear hcon
          go_enter Try.func22, Try.ntmps22
          go_wp2
          go_ret
          exact ⟨rfl, hb0⟩
      · simp only [h3, decide_false, Bool.false_and, Bool.and_false]
        clear hcon
        go_enter Try.func22, Try.ntmps22
        go_wp2
        go_ret
        exact ⟨rfl, hb0⟩
    · simp only [h2, decide_false, Bool.false_and, Bool.and_false]
      clear hcon
      go_enter Try.func22, Try.ntmps22
      go_wp2
      go_ret
      exact ⟨rfl, hb0⟩
  · simp only [h1, decide_false, Bool.false_and]
    clear hcon
    go_enter Try.func22, Try.ntmps22
    go_wp2
    go_ret
    exact ⟨rfl, hb0⟩
end Go.Proofs.Ytngimbfojccikaa
