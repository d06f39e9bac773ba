/- slices.Equal at words, slices.EqualFunc at tables. -/
import Derived.Test.YtoogobenjhmjjaaTbEqf
namespace Go.Proofs.Ytoogobenjhmjjaa
open Go Go.RowKit
set_option linter.unusedVariables false

def intEq (x y : Int) : Bool := x == y
theorem neq_int (x y : Int) (w : World) : (match encI x, encI y with | [.int _ a], [.int _ b] => a != b | _, _ => false) = (!intEq x y) ∧ (match encI x, encI y with | [.int _ a], [.int _ b] => a == b | _, _ => false) = intEq x y := ⟨rfl, rfl⟩

set_option maxHeartbeats 2000000 in
theorem equal_int (v1 v2 : Value) (xs ys : List (Int)) (w : World) (hv : Sl w 1 v1 xs.length (xs.flatMap encI)) (hv2 : Sl w 1 v2 ys.length (ys.flatMap encI)) :
    Calls Try.prog 38 #[v1, v2] w fun e w' => e = .returned (.bool (eqL intEq xs ys)) ∧ Below w.heap.size w w' := by
  have hk : ∀ x, (encI x).length = 1 := fun _ => rfl
  by_cases hlen : xs.length = ys.length
  · obtain ⟨A1, c1, rfl, hc1, hm1⟩ := hv.form
    obtain ⟨A2, c2, rfl, hc2, hm2⟩ := hv2.form
    rcases Nat.eq_zero_or_pos xs.length with h0 | h0
    · obtain rfl : xs = [] := List.eq_nil_of_length_eq_zero h0
      obtain rfl : ys = [] := List.eq_nil_of_length_eq_zero (by rw [← hlen]; rfl)
      clear hlen h0 hv hv2
      go_enter Try.func38, Try.ntmps38
      go_wp2
      refine wp_loop_rounds 1 ?_
      rw [rounds_succ]
      go_wp2
      go_ret
      exact ⟨rfl, Below.refl _ _⟩
    · have hA : ∃ a, A1 = some a := by
        rcases hv.2 with ⟨h, h'⟩ | ⟨a, c, h, _⟩
        · omega
        · injection h with h; exact ⟨a, h⟩
      obtain ⟨a1, rfl⟩ := hA
      have hA : ∃ a, A2 = some a := by
        rcases hv2.2 with ⟨h, h'⟩ | ⟨a, c, h, _⟩
        · omega
        · injection h with h; exact ⟨a, h⟩
      obtain ⟨a2, rfl⟩ := hA
      have hx := Sl.elem encI hk hv
      have hy := Sl.elem encI hk hv2
      clear hv hv2
      obtain ⟨n, hn⟩ : ∃ n, xs.length = n := ⟨_, rfl⟩
      have hn2 : ys.length = n := by rw [← hlen, hn]
      rw [hn, hn2]
      have hbig : n ≤ 9223372036854775807 := by unfold maxLen at hm1; omega
      have HN := Lib.hid hn
      have HN2 := Lib.hid hn2
      have HL := Lib.hid hlen
      clear hn hn2 hlen hc1 hc2 hm1 hm2 hk
      have s1 := (hx w (Below.refl _ _) 0 h0).1
      have s2 := (hy w (Below.refl _ _) 0 (by rw [← HL.out]; exact h0)).1
      obtain ⟨b1, o1, t1⟩ := a1
      obtain ⟨b2, o2, t2⟩ := a2
      simp only at s1 s2
      subst s1 s2
      go_enter Try.func38, Try.ntmps38
      go_wp2
      go_loopg [13] n (fun gg s13 wr => ∃ kk : Nat, kk ≤ n ∧ n - kk ≤ gg ∧ s13 = .int .i64 kk ∧ Hid (Below w.heap.size w wr) ∧ Hid (∀ j (h : j < xs.length) (h2 : j < ys.length), j < kk → intEq xs[j] ys[j] = true))
      case atStart => exact ⟨0, Nat.zero_le _, by omega, rfl, Below.refl _ w, fun j _ _ hj => absurd hj (Nat.not_lt_zero _)⟩
      case round =>
        obtain ⟨kk, hkk, hg, rfl, BW, AA⟩ := hrel
        by_cases hlt : kk < n
        · have hltz : (kk : Int) < (n : Int) := by omega
          have hgez : (0 : Int) ≤ (kk : Int) := by omega
          have hlt1 : kk < xs.length := by rw [HN.out]; exact hlt
          have hlt2 : kk < ys.length := by rw [HN2.out]; exact hlt
          have lx := (hx wr BW.out kk hlt1).2.2
          have ly := (hy wr BW.out kk hlt2).2.2
          clear hx hy
          have hne := fun w => neq_int xs[kk] ys[kk] w
          generalize hX : xs[kk] = x at lx hne
          generalize hY : ys[kk] = y at ly hne
          have HX := Lib.hid hX
          have HY := Lib.hid hY
          clear hX hY
          (have a0 := lx 0 _ rfl; have b0 := ly 0 _ rfl; simp only [Nat.add_zero, Nat.mul_one] at a0 b0)
          clear lx ly
          simp only [encI] at hne
          cases hq : intEq x y with
          | true =>
            rw [hq] at hne
            (have hn1 := (hne wr).1; have hn2 := (hne wr).2; try simp only [Bool.not_true] at hn1; try simp only [Bool.not_false] at hn1; clear hne)
            have HQ := Lib.hid hq
            clear hq
            go_wp2_with fail
            go_quiet (fail)
            go_wp2
            go_roundg (n - (kk + 1))
            case measure => omega
            case rel =>
              refine ⟨kk + 1, by omega, by omega, by go_num, below_drewN BW.out _, (show Hid _ from fun j h h2 hj => ?_)⟩
              by_cases e : j = kk
              · subst e
                rw [HX.out, HY.out]; exact HQ.out
              · exact AA.out j h h2 (by omega)
          | false =>
            rw [hq] at hne
            (have hn1 := (hne wr).1; have hn2 := (hne wr).2; try simp only [Bool.not_true] at hn1; try simp only [Bool.not_false] at hn1; clear hne)
            have HQ := Lib.hid hq
            clear hq
            go_wp2_with fail
            go_quiet (fail)
            go_wp2
            go_ret
            refine ⟨?_, below_drewN BW.out _⟩
            have : eqL intEq xs ys = false := by
              cases he : eqL intEq xs ys with
              | false => rfl
              | true =>
                have := eqL_at HL.out kk hlt1 he
                rw [HX.out, HY.out, HQ.out] at this
                exact this.symm
            rw [this]
            rfl
        · have hltz : ¬ (kk : Int) < (n : Int) := by omega
          obtain rfl : n = kk := by omega
          clear hx hy
          go_wp2
          go_ret
          refine ⟨?_, BW.out⟩
          rw [eqL_all HL.out (fun j h => AA.out j h (by rw [← HL.out]; exact h) (by rw [HN.out] at h; exact h))]
          rfl
  · have he : eqL intEq xs ys = false := by
      cases h : eqL intEq xs ys with
      | false => rfl
      | true => exact absurd (eqL_len h) hlen
    obtain ⟨A1, c1, rfl, hc1, hm1⟩ := hv.form
    obtain ⟨A2, c2, rfl, hc2, hm2⟩ := hv2.form
    rw [he]
    clear hv hv2 he hk
    generalize xs.length = n at *
    generalize ys.length = m at *
    have hne : ((n : Int) != (m : Int)) = true := by simp; omega
    clear hlen
    go_enter Try.func38, Try.ntmps38
    go_wp2
    go_ret
    exact ⟨rfl, Below.refl _ _⟩

def tabEq (x y : List Int) : Bool := eqL intEq x y

set_option maxHeartbeats 4000000 in
theorem eqf_tabs (v1 v2 : Value) (xs ys : List (List Int)) (w : World) (hv : TbV w v1 xs) (hv2 : TbV w v2 ys) :
    Calls Try.prog 37 #[v1, v2, .func (.func 38) #[] #[]] w fun e w' => e = .returned (.bool (eqR tabEq xs ys)) ∧ Below w.heap.size w w' := by
  have eg : ∀ args w, (callFunc 38 args).run Try.prog w = .ok (.enter 38 args) w := enters_of Try.func38 (by kernel_rfl) rfl
  obtain ⟨A1, c1, rfl, hc1, hm1⟩ := hv.form
  obtain ⟨A2, c2, rfl, hc2, hm2⟩ := hv2.form
  by_cases hlen : xs.length = ys.length
  · have HX := Lib.hid (fun h : 0 < xs.length => hv.elem h)
    have HY := Lib.hid (fun h : 0 < ys.length => hv2.elem h)
    have HL := Lib.hid hlen
    obtain ⟨n, hn⟩ : ∃ n, xs.length = n := ⟨_, rfl⟩
    have hn2 : ys.length = n := by rw [← hlen, hn]
    have HN := Lib.hid hn
    have HN2 := Lib.hid hn2
    rw [hn, hn2]
    have hbig : n ≤ 9223372036854775807 := by unfold maxLen at hm1; omega
    clear hv hv2 hc1 hc2 hm1 hm2 hn hn2 hlen
    go_enter Try.func37, Try.ntmps37
    go_wp2
    go_loopg [17] n (fun gg s17 wr => ∃ k : Nat, k ≤ n ∧ n - k ≤ gg ∧ s17 = .int .i64 k ∧ Below w.heap.size w wr ∧ Hid (∀ j (h : j < xs.length) (h2 : j < ys.length), j < k → tabEq xs[j] ys[j] = true))
    case atStart => exact ⟨0, Nat.zero_le _, Nat.le_refl _, rfl, Below.refl _ w, fun j _ _ hj => absurd hj (Nat.not_lt_zero _)⟩
    case round =>
      obtain ⟨k, hk, hg, rfl, BW, AA⟩ := hrel
      by_cases hlt : k < n
      · have hltz : (k : Int) < (n : Int) := by omega
        have hgez : (0 : Int) ≤ (k : Int) := by omega
        have hk1 : k < xs.length := by rw [HN.out]; exact hlt
        have hk2 : k < ys.length := by rw [HN2.out]; exact hlt
        obtain ⟨b1, o1, rfl, hb1, he1⟩ := HX.out (by omega)
        obtain ⟨b2, o2, rfl, hb2, he2⟩ := HY.out (by omega)
        obtain ⟨B1, d1, z1, hs1⟩ := he1 k hk1
        obtain ⟨B2, d2, z2, hs2⟩ := he2 k hk2
        have x0 := (BW.cell (p := ⟨b1, o1 + k, none⟩) hb1).trans z1
        have y0 := (BW.cell (p := ⟨b2, o2 + k, none⟩) hb2).trans z2
        have HQ0 := Lib.hid (fun h : tabEq xs[k] ys[k] = true => (show ∀ j (h : j < xs.length) (h2 : j < ys.length), j < k + 1 → tabEq xs[j] ys[j] = true from fun j h1 h2 hj => by
          by_cases e : j = k
          · subst e; exact h
          · exact AA.out j h1 h2 (by omega)))
        have HQ1 := Lib.hid (fun h : tabEq xs[k] ys[k] = false => (show eqR tabEq xs ys = false from by
          cases he : eqR tabEq xs ys with
          | false => rfl
          | true => have := eqR_at k hk1 hk2 he; rw [h] at this; cases this))
        clear he1 he2 HX HY z1 z2
        generalize xs[k] = x at *
        generalize ys[k] = y at *
        have cR := equal_int _ _ x y wr (hs1.below BW) (hs2.below BW)
        have HCR := Lib.hid cR
        clear hs1 hs2 cR
        cases hq : tabEq x y with
        | true =>
          have HQ := Lib.hid (HQ0.out hq)
          have cR := HCR.out
          rw [show eqL intEq x y = true from hq] at cR
          clear hq HQ0 HQ1 HCR
          go_wp2_with (go_at_fn 38; refine cR.mono ?_; rintro e w' ⟨rfl, hb'⟩)
          have hY := BW.trans (hb'.mono BW.size)
          clear hb'
          go_roundg (n - (k + 1))
          case measure => omega
          case rel => exact ⟨k + 1, by omega, by omega, by go_num, hY, HQ.out⟩
        | false =>
          have HQ := Lib.hid (HQ1.out hq)
          have cR := HCR.out
          rw [show eqL intEq x y = false from hq] at cR
          clear hq HQ0 HQ1 HCR
          go_wp2_with (go_at_fn 38; refine cR.mono ?_; rintro e w' ⟨rfl, hb'⟩)
          have hY := BW.trans (hb'.mono BW.size)
          go_ret
          exact ⟨by rw [HQ.out]; rfl, hY⟩
      · obtain rfl : k = n := by omega
        have HQ := Lib.hid (show eqR tabEq xs ys = true from eqR_all HL.out fun j h1 h2 => AA.out j h1 h2 (by rw [← HN.out]; exact h1))
        clear HX HY
        go_wp2
        go_ret
        exact ⟨by rw [HQ.out]; rfl, BW⟩
  · have HQ := Lib.hid (show eqR tabEq xs ys = false from by
      cases h : eqR tabEq xs ys with
      | false => rfl
      | true => exact absurd (eqR_len h) hlen)
    rw [HQ.out]
    clear hv hv2 HQ
    generalize xs.length = n at *
    generalize ys.length = m at *
    have hne : ((n : Int) != (m : Int)) = true := by simp; omega
    clear hlen
    go_enter Try.func37, Try.ntmps37
    go_wp2
    go_ret
    exact ⟨rfl, Below.refl _ _⟩
end Go.Proofs.Ytoogobenjhmjjaa
