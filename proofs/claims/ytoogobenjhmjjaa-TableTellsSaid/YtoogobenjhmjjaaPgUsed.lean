/- page.Used. -/
import Derived.Test.YtoogobenjhmjjaaPgSame
namespace Go.Proofs.Ytoogobenjhmjjaa
open Go Go.RowKit

/-- How many pages are had. -/
def usedN (ps : List Pg) : Nat := (ps.filter fun p => !freeP p).length
def usedL (cap : Int) (ps : List Pg) : Int := if mayP cap ps = true then usedN ps else 0

theorem usedN_le (ps : List Pg) : usedN ps ≤ ps.length := List.length_filter_le _ _
theorem usedN_snoc (ps : List Pg) (x : Pg) : usedN (ps ++ [x]) = usedN ps + if x.r = 0 then 0 else 1 := by
  unfold usedN
  rw [List.filter_append]
  by_cases h : x.r = 0 <;> simp [freeP, h]
theorem usedN_take (ps : List Pg) (k : Nat) (hk : k < ps.length) : usedN (ps.take (k + 1)) = usedN (ps.take k) + if ps[k].r = 0 then 0 else 1 := by
  rw [List.take_succ_eq_append_getElem hk, usedN_snoc]

set_option maxHeartbeats 1000000 in
theorem Used_any (v : Value) (cap : Int) (ps : List Pg) (w : World) (hv : StV w v cap ps) :
    Calls Try.prog 25 #[v] w fun e w' => e = .returned (.int .i64 (usedL cap ps)) ∧ Below w.heap.size w w' := by
  obtain ⟨sv, rfl, hsl⟩ := hv
  have hmay := fun W hb => may_any cap sv ps W (hsl.below hb)
  obtain ⟨A, c, rfl, hc, hm⟩ := hsl.form
  cases hq : mayP cap ps with
  | false =>
    rw [show usedL cap ps = 0 from by simp [usedL, hq]]
    rw [hq] at hmay
    clear hq hsl
    generalize ps.length = n at *
    go_enter Try.func25, Try.ntmps25
    go_wp2_with (go_at_call 29; refine (hmay _ ((Below.refl _ _).alloc (Nat.le_refl _) _)).mono ?_; rintro e w1 ⟨rfl, hb1⟩)
    go_ret
    exact ⟨rfl, ((Below.refl _ _).alloc (Nat.le_refl _) _).trans (hb1.mono (by simp))⟩
  | true =>
    rw [show usedL cap ps = usedN ps from by simp [usedL, hq]]
    rw [hq] at hmay
    have hlen := (may_len hq).2.2
    have hlen2 := (may_len hq).2.1
    have hodd := fun k hk => odd_bounds (may_odd hq k hk)
    clear hq
    rcases Nat.eq_zero_or_pos ps.length with h0 | h0
    · obtain rfl : ps = [] := List.eq_nil_of_length_eq_zero h0
      clear hsl hodd h0
      go_enter Try.func25, Try.ntmps25
      go_wp2_with fail
      refine (hmay _ ((Below.refl _ _).alloc (Nat.le_refl _) _)).mono ?_
      rintro e w1 ⟨rfl, hb1⟩
      obtain ⟨hc1, _⟩ := bcell hb1
      have hz1 := hb1.size
      simp at hz1
      go_wp2
      refine wp_loop_rounds 1 ?_
      rw [rounds_succ]
      go_wp2
      go_ret
      exact ⟨rfl, ((Below.refl _ _).alloc (Nat.le_refl _) _).trans (hb1.mono (by simp))⟩
    · have hA : ∃ a, A = some a := by
        rcases hsl.2 with ⟨h, h'⟩ | ⟨a, c, h, _⟩
        · omega
        · injection h with h; exact ⟨a, h⟩
      obtain ⟨a, rfl⟩ := hA
      have hx := Sl.elem encP encP_len hsl
      clear hsl
      obtain ⟨n, hn⟩ : ∃ n, ps.length = n := ⟨_, rfl⟩
      rw [hn] at hmay hlen ⊢
      have HN := Lib.hid hn
      have s1 := (hx w (Below.refl _ _) 0 h0).1
      obtain ⟨b1, o1, t1⟩ := a
      simp only at s1
      subst s1
      rw [hn] at h0 hc
      clear hn
      go_enter Try.func25, Try.ntmps25
      go_wp2_with fail
      refine (hmay _ ((Below.refl _ _).alloc (Nat.le_refl _) _)).mono ?_
      rintro e w1 ⟨rfl, hb1⟩
      obtain ⟨hc1, _⟩ := bcell hb1
      have hz1 := hb1.size
      simp at hz1
      go_wp2
      clear hc1
      go_loopg [3, 5, 13] n (fun gg s3 _ s13 wr => ∃ kk : Nat, kk ≤ n ∧ n - kk ≤ gg ∧ s13 = .int .i64 kk ∧ s3 = .int .i64 (usedN (ps.take kk)) ∧ Hid (Below w.heap.size w wr))
      case atStart => exact ⟨0, Nat.zero_le _, by omega, rfl, rfl, ((Below.refl _ _).alloc (Nat.le_refl _) _).trans (hb1.mono (by simp))⟩
      case round =>
        obtain ⟨kk, hkk, hg, rfl, rfl, BW⟩ := hrel
        by_cases hlt : kk < n
        · have hltz : (kk : Int) < (n : Int) := by omega
          have hgez : (0 : Int) ≤ (kk : Int) := by omega
          have hlt1 : kk < ps.length := by rw [HN.out]; exact hlt
          have lx := (hx wr BW.out kk hlt1).2.2
          have hr := (hodd kk hlt1).1
          have ht := usedN_take ps kk hlt1
          have hu := usedN_le (ps.take kk)
          have hu2 : (ps.take kk).length ≤ kk := List.length_take_le _ _
          clear hx hodd
          generalize hX : ps[kk] = x at lx hr ht
          clear hX
          generalize hU : usedN (ps.take kk) = U at *
          have HT := Lib.hid ht
          clear ht hU
          have a0 := lx 0 _ rfl; have a1 := lx 1 _ rfl; have a2 := lx 2 _ rfl; have a3 := lx 3 _ rfl; have a4 := lx 4 _ rfl
          simp only [Nat.add_zero] at a0
          clear lx
          go_wp2
          all_goals
            go_roundg (n - (kk + 1))
            case measure => omega
            case rel =>
              refine ⟨kk + 1, by omega, by omega, by go_num, ?_, (show Hid _ from BW.out.alloc BW.out.size _)⟩
              rw [HT.out]
              congr 1
              split <;> omega
        · have hltz : ¬ (kk : Int) < (n : Int) := by omega
          obtain rfl : n = kk := by omega
          clear hx
          go_wp2
          go_ret
          refine ⟨?_, BW.out⟩
          rw [List.take_of_length_le (by rw [HN.out]; exact Nat.le_refl _)]
          rfl
end Go.Proofs.Ytoogobenjhmjjaa
