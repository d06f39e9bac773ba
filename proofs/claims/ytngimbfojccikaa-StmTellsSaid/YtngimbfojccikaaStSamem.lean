/- slices.Equal at pairs and words. -/
import Derived.Test.YtngimbfojccikaaStRunm
import Derived.ChangeKeysEq
namespace Go.Proofs.Ytngimbfojccikaa
set_option linter.unusedSimpArgs false
open Go Go.RowKit
set_option linter.unusedVariables false

def prEq (p q : Pr) : Bool := p.at_ == q.at_ && p.v == q.v
theorem equalIn_pair (d : Nat) (x y : Pr) (w : World) :
    (Op.equalIn (d + 2) 55 (.agg (encPr x).toArray) (.agg (encPr y).toArray)).run Try.prog w = .ok (prEq x y) w := by
  have hS : Try.prog.underlying 55 = some (.struct (Try.prog.fieldsOf 55)) := by kernel_rfl
  have hp : Try.prog.stoodInHeld 55 = false := by kernel_rfl
  have u3 := Try.underlying3
  have z3 := Try.sizeOf3
  have a3 := Try.isAgg3
  rw [show d + 2 = (d + 1) + 1 from rfl, run_equalIn_agg w (d + 1) 55 _ _ hS hp]
  simp only [Program.fieldsOf, Try.underlying55, encPr, prEq]
  clear hS hp
  go_simp
  by_cases h0 : x.at_ = y.at_
  · by_cases h1 : x.v = y.v <;> simp [h0, h1]
  · simp [h0]
theorem neq_pair (x y : Pr) (w : World) : (binOp .neq 55 (.agg (encPr x).toArray) (.agg (encPr y).toArray)).run Try.prog w = .ok (.bool (!prEq x y)) w := by
  rw [run_neq_struct, show (10000 : Nat) = 9998 + 2 from rfl, equalIn_pair]; rfl
theorem guard_pair (op : BinOp) (a b : Operand) (x y : Pr) (w : World) : (eqGuard op 55 a b (.agg (encPr x).toArray) (.agg (encPr y).toArray)).run Try.prog w = .ok () w :=
  run_eqGuard_agg w op 55 a b _ _ (by kernel_rfl)
theorem prEq_iff {p q : Pr} : prEq p q = true ↔ p = q := by
  cases p; cases q; simp [prEq]
set_option maxHeartbeats 2000000 in
theorem equal_pair (v1 v2 : Value) (xs ys : List (Pr)) (w : World) (hv : Sl w 2 v1 xs.length (xs.flatMap encPr)) (hv2 : Sl w 2 v2 ys.length (ys.flatMap encPr)) :
    Calls Try.prog 58 #[v1, v2] w fun e w' => e = .returned (.bool (eqL prEq xs ys)) ∧ Below w.heap.size w w' := by
  have hk : ∀ x, (encPr x).length = 2 := fun _ => rfl
  by_cases hlen : xs.length = ys.length
  · obtain ⟨A1, c1, rfl, hc1, hm1⟩ := hv.form
    obtain ⟨A2, c2, rfl, hc2, hm2⟩ := hv2.form
    rcases Nat.eq_zero_or_pos xs.length with h0 | h0
    · obtain rfl : xs = [] := List.eq_nil_of_length_eq_zero h0
      obtain rfl : ys = [] := List.eq_nil_of_length_eq_zero (by rw [← hlen]; rfl)
      clear hlen h0 hv hv2
      go_enter Try.func58, Try.ntmps58
      go_wp2
      refine wp_loop_rounds 1 ?_
      rw [rounds_succ]
      go_wp2
      go_ret
      exact ⟨rfl, Below.refl _ _⟩
    · have hA : ∃ a, A1 = some a := by
        rcases hv.2 with ⟨h, h'⟩ | ⟨a, c, h, _⟩
        · omega
        · injection h with h; exact ⟨a, h⟩
      obtain ⟨a1, rfl⟩ := hA
      have hA : ∃ a, A2 = some a := by
        rcases hv2.2 with ⟨h, h'⟩ | ⟨a, c, h, _⟩
        · omega
        · injection h with h; exact ⟨a, h⟩
      obtain ⟨a2, rfl⟩ := hA
      have hx := Sl.elem encPr hk hv
      have hy := Sl.elem encPr hk hv2
      clear hv hv2
      obtain ⟨n, hn⟩ : ∃ n, xs.length = n := ⟨_, rfl⟩
      have hn2 : ys.length = n := by rw [← hlen, hn]
      rw [hn, hn2]
      have hbig : n ≤ 9223372036854775807 := by unfold maxLen at hm1; omega
      have HN := Lib.hid hn
      have HN2 := Lib.hid hn2
      have HL := Lib.hid hlen
      clear hn hn2 hlen hc1 hc2 hm1 hm2 hk
      have s1 := (hx w (Below.refl _ _) 0 h0).1
      have s2 := (hy w (Below.refl _ _) 0 (by rw [← HL.out]; exact h0)).1
      obtain ⟨b1, o1, t1⟩ := a1
      obtain ⟨b2, o2, t2⟩ := a2
      simp only at s1 s2
      subst s1 s2
      go_enter Try.func58, Try.ntmps58
      go_wp2
      go_loopg [13] n (fun gg s13 wr => ∃ kk : Nat, kk ≤ n ∧ n - kk ≤ gg ∧ s13 = .int .i64 kk ∧ Hid (Below w.heap.size w wr) ∧ Hid (∀ j (h : j < xs.length) (h2 : j < ys.length), j < kk → prEq xs[j] ys[j] = true))
      case atStart => exact ⟨0, Nat.zero_le _, by omega, rfl, Below.refl _ w, fun j _ _ hj => absurd hj (Nat.not_lt_zero _)⟩
      case round =>
        obtain ⟨kk, hkk, hg, rfl, BW, AA⟩ := hrel
        by_cases hlt : kk < n
        · have hltz : (kk : Int) < (n : Int) := by omega
          have hgez : (0 : Int) ≤ (kk : Int) := by omega
          have hlt1 : kk < xs.length := by rw [HN.out]; exact hlt
          have hlt2 : kk < ys.length := by rw [HN2.out]; exact hlt
          have lx := (hx wr BW.out kk hlt1).2.2
          have ly := (hy wr BW.out kk hlt2).2.2
          clear hx hy
          have hne := fun w => neq_pair xs[kk] ys[kk] w
          generalize hX : xs[kk] = x at lx hne
          generalize hY : ys[kk] = y at ly hne
          have HX := Lib.hid hX
          have HY := Lib.hid hY
          clear hX hY
          (have a0 := lx 0 _ rfl; have a1 := lx 1 _ rfl; have b0 := ly 0 _ rfl; have b1 := ly 1 _ rfl; simp only [Nat.add_zero] at a0 b0)
          clear lx ly
          simp only [encPr] at hne
          cases hq : prEq x y with
          | true =>
            rw [hq] at hne
            skip
            have HQ := Lib.hid hq
            clear hq
            go_wp2_with fail
            go_quiet (fail)
            go_wp2
            go_roundg (n - (kk + 1))
            case measure => omega
            case rel =>
              refine ⟨kk + 1, by omega, by omega, by go_num, below_drewN BW.out _, (show Hid _ from fun j h h2 hj => ?_)⟩
              by_cases e : j = kk
              · subst e
                rw [HX.out, HY.out]; exact HQ.out
              · exact AA.out j h h2 (by omega)
          | false =>
            rw [hq] at hne
            skip
            have HQ := Lib.hid hq
            clear hq
            go_wp2_with fail
            go_quiet (fail)
            go_wp2
            go_ret
            refine ⟨?_, below_drewN BW.out _⟩
            have : eqL prEq xs ys = false := by
              cases he : eqL prEq xs ys with
              | false => rfl
              | true =>
                have := eqL_at HL.out kk hlt1 he
                rw [HX.out, HY.out, HQ.out] at this
                exact this.symm
            rw [this]
            rfl
        · have hltz : ¬ (kk : Int) < (n : Int) := by omega
          obtain rfl : n = kk := by omega
          clear hx hy
          go_wp2
          go_ret
          refine ⟨?_, BW.out⟩
          rw [eqL_all HL.out (fun j h => AA.out j h (by rw [← HL.out]; exact h) (by rw [HN.out] at h; exact h))]
          rfl
  · have he : eqL prEq xs ys = false := by
      cases h : eqL prEq xs ys with
      | false => rfl
      | true => exact absurd (eqL_len h) hlen
    obtain ⟨A1, c1, rfl, hc1, hm1⟩ := hv.form
    obtain ⟨A2, c2, rfl, hc2, hm2⟩ := hv2.form
    rw [he]
    clear hv hv2 he hk
    generalize xs.length = n at *
    generalize ys.length = m at *
    have hne : ((n : Int) != (m : Int)) = true := by simp; omega
    clear hlen
    go_enter Try.func58, Try.ntmps58
    go_wp2
    go_ret
    exact ⟨rfl, Below.refl _ _⟩

def intEq (x y : Int) : Bool := x == y
theorem neq_int (x y : Int) (w : World) : (match encI x, encI y with | [.int _ a], [.int _ b] => a != b | _, _ => false) = (!intEq x y) ∧ (match encI x, encI y with | [.int _ a], [.int _ b] => a == b | _, _ => false) = intEq x y := ⟨rfl, rfl⟩
set_option maxHeartbeats 2000000 in
theorem equal_int (v1 v2 : Value) (xs ys : List (Int)) (w : World) (hv : Sl w 1 v1 xs.length (xs.flatMap encI)) (hv2 : Sl w 1 v2 ys.length (ys.flatMap encI)) :
    Calls Try.prog 34 #[v1, v2] w fun e w' => e = .returned (.bool (eqL intEq xs ys)) ∧ Below w.heap.size w w' := by
  have hk : ∀ x, (encI x).length = 1 := fun _ => rfl
  by_cases hlen : xs.length = ys.length
  · obtain ⟨A1, c1, rfl, hc1, hm1⟩ := hv.form
    obtain ⟨A2, c2, rfl, hc2, hm2⟩ := hv2.form
    rcases Nat.eq_zero_or_pos xs.length with h0 | h0
    · obtain rfl : xs = [] := List.eq_nil_of_length_eq_zero h0
      obtain rfl : ys = [] := List.eq_nil_of_length_eq_zero (by rw [← hlen]; rfl)
      clear hlen h0 hv hv2
      go_enter Try.func34, Try.ntmps34
      go_wp2
      refine wp_loop_rounds 1 ?_
      rw [rounds_succ]
      go_wp2
      go_ret
      exact ⟨rfl, Below.refl _ _⟩
    · have hA : ∃ a, A1 = some a := by
        rcases hv.2 with ⟨h, h'⟩ | ⟨a, c, h, _⟩
        · omega
        · injection h with h; exact ⟨a, h⟩
      obtain ⟨a1, rfl⟩ := hA
      have hA : ∃ a, A2 = some a := by
        rcases hv2.2 with ⟨h, h'⟩ | ⟨a, c, h, _⟩
        · omega
        · injection h with h; exact ⟨a, h⟩
      obtain ⟨a2, rfl⟩ := hA
      have hx := Sl.elem encI hk hv
      have hy := Sl.elem encI hk hv2
      clear hv hv2
      obtain ⟨n, hn⟩ : ∃ n, xs.length = n := ⟨_, rfl⟩
      have hn2 : ys.length = n := by rw [← hlen, hn]
      rw [hn, hn2]
      have hbig : n ≤ 9223372036854775807 := by unfold maxLen at hm1; omega
      have HN := Lib.hid hn
      have HN2 := Lib.hid hn2
      have HL := Lib.hid hlen
      clear hn hn2 hlen hc1 hc2 hm1 hm2 hk
      have s1 := (hx w (Below.refl _ _) 0 h0).1
      have s2 := (hy w (Below.refl _ _) 0 (by rw [← HL.out]; exact h0)).1
      obtain ⟨b1, o1, t1⟩ := a1
      obtain ⟨b2, o2, t2⟩ := a2
      simp only at s1 s2
      subst s1 s2
      go_enter Try.func34, Try.ntmps34
      go_wp2
      go_loopg [13] n (fun gg s13 wr => ∃ kk : Nat, kk ≤ n ∧ n - kk ≤ gg ∧ s13 = .int .i64 kk ∧ Hid (Below w.heap.size w wr) ∧ Hid (∀ j (h : j < xs.length) (h2 : j < ys.length), j < kk → intEq xs[j] ys[j] = true))
      case atStart => exact ⟨0, Nat.zero_le _, by omega, rfl, Below.refl _ w, fun j _ _ hj => absurd hj (Nat.not_lt_zero _)⟩
      case round =>
        obtain ⟨kk, hkk, hg, rfl, BW, AA⟩ := hrel
        by_cases hlt : kk < n
        · have hltz : (kk : Int) < (n : Int) := by omega
          have hgez : (0 : Int) ≤ (kk : Int) := by omega
          have hlt1 : kk < xs.length := by rw [HN.out]; exact hlt
          have hlt2 : kk < ys.length := by rw [HN2.out]; exact hlt
          have lx := (hx wr BW.out kk hlt1).2.2
          have ly := (hy wr BW.out kk hlt2).2.2
          clear hx hy
          have hne := fun w => neq_int xs[kk] ys[kk] w
          generalize hX : xs[kk] = x at lx hne
          generalize hY : ys[kk] = y at ly hne
          have HX := Lib.hid hX
          have HY := Lib.hid hY
          clear hX hY
          (have a0 := lx 0 _ rfl; have b0 := ly 0 _ rfl; simp only [Nat.add_zero, Nat.mul_one] at a0 b0)
          clear lx ly
          simp only [encI] at hne
          cases hq : intEq x y with
          | true =>
            rw [hq] at hne
            (have hn1 := (hne wr).1; have hn2 := (hne wr).2; try simp only [Bool.not_true] at hn1; try simp only [Bool.not_false] at hn1; clear hne)
            have HQ := Lib.hid hq
            clear hq
            go_wp2_with fail
            go_quiet (fail)
            go_wp2
            go_roundg (n - (kk + 1))
            case measure => omega
            case rel =>
              refine ⟨kk + 1, by omega, by omega, by go_num, below_drewN BW.out _, (show Hid _ from fun j h h2 hj => ?_)⟩
              by_cases e : j = kk
              · subst e
                rw [HX.out, HY.out]; exact HQ.out
              · exact AA.out j h h2 (by omega)
          | false =>
            rw [hq] at hne
            (have hn1 := (hne wr).1; have hn2 := (hne wr).2; try simp only [Bool.not_true] at hn1; try simp only [Bool.not_false] at hn1; clear hne)
            have HQ := Lib.hid hq
            clear hq
            go_wp2_with fail
            go_quiet (fail)
            go_wp2
            go_ret
            refine ⟨?_, below_drewN BW.out _⟩
            have : eqL intEq xs ys = false := by
              cases he : eqL intEq xs ys with
              | false => rfl
              | true =>
                have := eqL_at HL.out kk hlt1 he
                rw [HX.out, HY.out, HQ.out] at this
                exact this.symm
            rw [this]
            rfl
        · have hltz : ¬ (kk : Int) < (n : Int) := by omega
          obtain rfl : n = kk := by omega
          clear hx hy
          go_wp2
          go_ret
          refine ⟨?_, BW.out⟩
          rw [eqL_all HL.out (fun j h => AA.out j h (by rw [← HL.out]; exact h) (by rw [HN.out] at h; exact h))]
          rfl
  · have he : eqL intEq xs ys = false := by
      cases h : eqL intEq xs ys with
      | false => rfl
      | true => exact absurd (eqL_len h) hlen
    obtain ⟨A1, c1, rfl, hc1, hm1⟩ := hv.form
    obtain ⟨A2, c2, rfl, hc2, hm2⟩ := hv2.form
    rw [he]
    clear hv hv2 he hk
    generalize xs.length = n at *
    generalize ys.length = m at *
    have hne : ((n : Int) != (m : Int)) = true := by simp; omega
    clear hlen
    go_enter Try.func34, Try.ntmps34
    go_wp2
    go_ret
    exact ⟨rfl, Below.refl _ _⟩
end Go.Proofs.Ytngimbfojccikaa
