/- slices.Equal at pages, page.Same, page.New, page.Used. -/
import Derived.Test.YtoogobenjhmjjaaPgWrite3
namespace Go.Proofs.Ytoogobenjhmjjaa
open Go Go.RowKit

set_option maxHeartbeats 2000000 in
theorem equal_page (v1 v2 : Value) (xs ys : List (Pg)) (w : World) (hv : Sl w 5 v1 xs.length (xs.flatMap encP)) (hv2 : Sl w 5 v2 ys.length (ys.flatMap encP)) :
    Calls Try.prog 63 #[v1, v2] w fun e w' => e = .returned (.bool (eqL pgEq xs ys)) ∧ Below w.heap.size w w' := by
  have hk : ∀ x, (encP x).length = 5 := fun _ => rfl
  by_cases hlen : xs.length = ys.length
  · obtain ⟨A1, c1, rfl, hc1, hm1⟩ := hv.form
    obtain ⟨A2, c2, rfl, hc2, hm2⟩ := hv2.form
    rcases Nat.eq_zero_or_pos xs.length with h0 | h0
    · obtain rfl : xs = [] := List.eq_nil_of_length_eq_zero h0
      obtain rfl : ys = [] := List.eq_nil_of_length_eq_zero (by rw [← hlen]; rfl)
      clear hlen h0 hv hv2
      go_enter Try.func63, Try.ntmps63
      go_wp2
      refine wp_loop_rounds 1 ?_
      rw [rounds_succ]
      go_wp2
      go_ret
      exact ⟨rfl, Below.refl _ _⟩
    · have hA : ∃ a, A1 = some a := by
        rcases hv.2 with ⟨h, h'⟩ | ⟨a, c, h, _⟩
        · omega
        · injection h with h; exact ⟨a, h⟩
      obtain ⟨a1, rfl⟩ := hA
      have hA : ∃ a, A2 = some a := by
        rcases hv2.2 with ⟨h, h'⟩ | ⟨a, c, h, _⟩
        · omega
        · injection h with h; exact ⟨a, h⟩
      obtain ⟨a2, rfl⟩ := hA
      have hx := Sl.elem encP hk hv
      have hy := Sl.elem encP hk hv2
      clear hv hv2
      obtain ⟨n, hn⟩ : ∃ n, xs.length = n := ⟨_, rfl⟩
      have hn2 : ys.length = n := by rw [← hlen, hn]
      rw [hn, hn2]
      have hbig : n ≤ 9223372036854775807 := by unfold maxLen at hm1; omega
      have HN := Lib.hid hn
      have HN2 := Lib.hid hn2
      have HL := Lib.hid hlen
      clear hn hn2 hlen hc1 hc2 hm1 hm2 hk
      have s1 := (hx w (Below.refl _ _) 0 h0).1
      have s2 := (hy w (Below.refl _ _) 0 (by rw [← HL.out]; exact h0)).1
      obtain ⟨b1, o1, t1⟩ := a1
      obtain ⟨b2, o2, t2⟩ := a2
      simp only at s1 s2
      subst s1 s2
      go_enter Try.func63, Try.ntmps63
      go_wp2
      go_loopg [13] n (fun gg s13 wr => ∃ kk : Nat, kk ≤ n ∧ n - kk ≤ gg ∧ s13 = .int .i64 kk ∧ Hid (Below w.heap.size w wr) ∧ Hid (∀ j (h : j < xs.length) (h2 : j < ys.length), j < kk → pgEq xs[j] ys[j] = true))
      case atStart => exact ⟨0, Nat.zero_le _, by omega, rfl, Below.refl _ w, fun j _ _ hj => absurd hj (Nat.not_lt_zero _)⟩
      case round =>
        obtain ⟨kk, hkk, hg, rfl, BW, AA⟩ := hrel
        by_cases hlt : kk < n
        · have hltz : (kk : Int) < (n : Int) := by omega
          have hgez : (0 : Int) ≤ (kk : Int) := by omega
          have hlt1 : kk < xs.length := by rw [HN.out]; exact hlt
          have hlt2 : kk < ys.length := by rw [HN2.out]; exact hlt
          have lx := (hx wr BW.out kk hlt1).2.2
          have ly := (hy wr BW.out kk hlt2).2.2
          clear hx hy
          have hne := fun w => neq_page xs[kk] ys[kk] w
          generalize hX : xs[kk] = x at lx hne
          generalize hY : ys[kk] = y at ly hne
          have HX := Lib.hid hX
          have HY := Lib.hid hY
          clear hX hY
          (have a0 := lx 0 _ rfl; have a1 := lx 1 _ rfl; have a2 := lx 2 _ rfl; have a3 := lx 3 _ rfl; have a4 := lx 4 _ rfl; have b0 := ly 0 _ rfl; have b1 := ly 1 _ rfl; have b2 := ly 2 _ rfl; have b3 := ly 3 _ rfl; have b4 := ly 4 _ rfl; simp only [Nat.add_zero] at a0 b0)
          clear lx ly
          simp only [encP] at hne
          cases hq : pgEq x y with
          | true =>
            rw [hq] at hne
            skip
            have HQ := Lib.hid hq
            clear hq
            go_wp2_with fail
            go_quiet (fail)
            go_wp2
            go_roundg (n - (kk + 1))
            case measure => omega
            case rel =>
              refine ⟨kk + 1, by omega, by omega, by go_num, below_drewN BW.out _, (show Hid _ from fun j h h2 hj => ?_)⟩
              by_cases e : j = kk
              · subst e
                rw [HX.out, HY.out]; exact HQ.out
              · exact AA.out j h h2 (by omega)
          | false =>
            rw [hq] at hne
            skip
            have HQ := Lib.hid hq
            clear hq
            go_wp2_with fail
            go_quiet (fail)
            go_wp2
            go_ret
            refine ⟨?_, below_drewN BW.out _⟩
            have : eqL pgEq xs ys = false := by
              cases he : eqL pgEq xs ys with
              | false => rfl
              | true =>
                have := eqL_at HL.out kk hlt1 he
                rw [HX.out, HY.out, HQ.out] at this
                exact this.symm
            rw [this]
            rfl
        · have hltz : ¬ (kk : Int) < (n : Int) := by omega
          obtain rfl : n = kk := by omega
          clear hx hy
          go_wp2
          go_ret
          refine ⟨?_, BW.out⟩
          rw [eqL_all HL.out (fun j h => AA.out j h (by rw [← HL.out]; exact h) (by rw [HN.out] at h; exact h))]
          rfl
  · have he : eqL pgEq xs ys = false := by
      cases h : eqL pgEq xs ys with
      | false => rfl
      | true => exact absurd (eqL_len h) hlen
    obtain ⟨A1, c1, rfl, hc1, hm1⟩ := hv.form
    obtain ⟨A2, c2, rfl, hc2, hm2⟩ := hv2.form
    rw [he]
    clear hv hv2 he hk
    generalize xs.length = n at *
    generalize ys.length = m at *
    have hne : ((n : Int) != (m : Int)) = true := by simp; omega
    clear hlen
    go_enter Try.func63, Try.ntmps63
    go_wp2
    go_ret
    exact ⟨rfl, Below.refl _ _⟩
def sameP (c1 : Int) (xs : List Pg) (c2 : Int) (ys : List Pg) : Bool := c1 == c2 && eqL pgEq xs ys

set_option maxHeartbeats 400000 in
theorem Same_any (v1 v2 : Value) (c1 c2 : Int) (xs ys : List Pg) (w : World) (hv1 : StV w v1 c1 xs) (hv2 : StV w v2 c2 ys) :
    Calls Try.prog 36 #[v1, v2] w fun e w' => e = .returned (.bool (sameP c1 xs c2 ys)) ∧ Below w.heap.size w w' := by
  obtain ⟨s1, rfl, hs1⟩ := hv1
  obtain ⟨s2, rfl, hs2⟩ := hv2
  have hb0 : Below w.heap.size w ((w.alloc (.cells #[.int .i64 c1, s1] 25)).alloc (.cells #[.int .i64 c2, s2] 25)) := ((Below.refl _ w).alloc (Nat.le_refl _) _).alloc (by simp) _
  have heq := equal_page s1 s2 xs ys _ (hs1.below hb0) (hs2.below hb0)
  obtain ⟨A1, k1, rfl, _, _⟩ := hs1.form
  obtain ⟨A2, k2, rfl, _, _⟩ := hs2.form
  cases hc : (c1 == c2) with
  | true =>
    rw [show sameP c1 xs c2 ys = eqL pgEq xs ys from by simp [sameP, hc]]
    generalize eqL pgEq xs ys = q at heq ⊢
    have hc' : (c1 == c2) = true := hc
    clear hs1 hs2
    generalize xs.length = n at *
    generalize ys.length = m at *
    go_enter Try.func36, Try.ntmps36
    go_wp2_with (go_at_call 63; refine heq.mono ?_; rintro e w1 ⟨rfl, hb1⟩)
    go_ret
    exact ⟨rfl, hb0.trans (hb1.mono (by simp; omega))⟩
  | false =>
    rw [show sameP c1 xs c2 ys = false from by simp [sameP, hc]]
    clear hs1 hs2 heq
    generalize xs.length = n at *
    generalize ys.length = m at *
    go_enter Try.func36, Try.ntmps36
    go_wp2
    go_ret
    exact ⟨rfl, hb0⟩

set_option maxHeartbeats 400000 in
theorem New_no (room : Int) (w : World) (h : room < 0 ∨ 12 < room) :
    Calls Try.prog 26 #[.int .i64 room] w fun e w' => ∃ v', e = .returned (.tuple #[v', .bool false]) ∧ StV w' v' 0 [] ∧ Below w.heap.size w w' := by
  rcases h with h | h
  · go_enter Try.func26, Try.ntmps26
    go_wp2
    exact bodyPost_ret (v := .tuple #[.agg #[.int .i64 0, .slice none 0 0], .bool false]) (by simp [results, Try.results26, go_sem]) rfl ⟨_, rfl, ⟨_, rfl, Sl.nil _ _⟩, (Below.refl _ _).alloc (Nat.le_refl _) _⟩
  · have h0 : ¬ room < 0 := by omega
    go_enter Try.func26, Try.ntmps26
    go_wp2
    exact bodyPost_ret (v := .tuple #[.agg #[.int .i64 0, .slice none 0 0], .bool false]) (by simp [results, Try.results26, go_sem]) rfl ⟨_, rfl, ⟨_, rfl, Sl.nil _ _⟩, (Below.refl _ _).alloc (Nat.le_refl _) _⟩

set_option maxHeartbeats 400000 in
theorem New_yes (room : Int) (w : World) (h0 : 0 ≤ room) (h1 : room ≤ 12) :
    Calls Try.prog 26 #[.int .i64 room] w fun e w' => ∃ v', e = .returned (.tuple #[v', .bool true]) ∧ StV w' v' room [] ∧ Below w.heap.size w w' := by
  go_enter Try.func26, Try.ntmps26
  go_wp2
  exact bodyPost_ret (v := .tuple #[.agg #[.int .i64 room, .slice none 0 0], .bool true]) (by simp [results, Try.results26, go_sem]) rfl ⟨_, rfl, ⟨_, rfl, Sl.nil _ _⟩, (Below.refl _ _).alloc (Nat.le_refl _) _⟩

end Go.Proofs.Ytoogobenjhmjjaa
