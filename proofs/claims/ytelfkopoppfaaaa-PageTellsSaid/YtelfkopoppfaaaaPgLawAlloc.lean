/- The walk of PageAlloc. -/
import Derived.Test.YtelfkopoppfaaaaPgLawNew
namespace Go.Proofs.Ytelfkopoppfaaaa
open Go Go.RowKit

theorem alloc_law {cap : Int} {ps : List Pg} (hm : mayP cap ps = true) :
    (allocL cap ps ⟨0, 0, 0, 0, 0⟩ = (-1, 8, ps)) ∨ ∃ (j : Nat) (qs : List Pg), allocL cap ps ⟨0, 0, 0, 0, 0⟩ = ((j : Int), 0, qs) ∧ (∃ h : j < qs.length, qs[j] = onePg) ∧ qs.length ≤ 13 ∧
      ∀ k (h : k < ps.length), k ≠ j → (∃ h' : k < qs.length, qs[k] = ps[k]) ∧ (j < k ∨ 0 < ps[k].r) := by
  have hl := may_len hm
  unfold allocL
  rcases idxF_range freeP ps with h | ⟨j, hj, h⟩
  · rw [if_pos h]
    by_cases h2 : (ps.length : Int) = cap
    · rw [if_pos h2]; exact .inl rfl
    · rw [if_neg h2]
      refine .inr ⟨ps.length, _, rfl, ⟨by simp, by simp [onePg]⟩, by simp; omega, fun k hk _ => ⟨⟨by simp; omega, by rw [List.getElem_append_left hk]⟩, .inr ?_⟩⟩
      have hf : freeP ps[k] = false := by
        have hall : ¬ ps.findIdx freeP < ps.length := by
          intro hh
          unfold idxF at h
          rw [if_pos hh] at h
          omega
        cases hc : freeP ps[k] with
        | false => rfl
        | true => exact absurd (List.findIdx_lt_length.2 ⟨_, List.getElem_mem hk, hc⟩) hall
      have hb := odd_bounds (may_odd hm k hk)
      have : ps[k].r ≠ 0 := by simpa [freeP] using hf
      omega
  · rw [if_neg (by omega)]
    obtain ⟨_, hp, hlow⟩ := idxF_spec freeP ps j h
    refine .inr ⟨j, ps.set j onePg, by rw [h]; rfl, ⟨by simpa using hj, by simp⟩, by simp; omega, fun k hk hne => ⟨⟨by simpa using hk, by rw [List.getElem_set_ne (Ne.symm hne)]⟩, ?_⟩⟩
    rcases Nat.lt_or_ge k j with hkj | hkj
    · right
      have hf := hlow k hkj
      have hb := odd_bounds (may_odd hm k hk)
      have : ps[k].r ≠ 0 := by simpa [freeP] using hf
      omega
    · left; omega

set_option maxRecDepth 100000 in
set_option maxHeartbeats 2000000 in
theorem pageAlloc_walk (w : World) (v0 : Value) (cap0 : Int) (ps0 : List Pg) (hst0 : StV w v0 cap0 ps0) (_wc0 : okI cap0) (_hok0 : ∀ q ∈ ps0, pgOk q) (k : Int) (_w1 : (Lit.int .i64 k).wf = true) :
    Calls Try.prog 5 #[v0, .int .i64 k] w fun e w' => e = .returned (.bool true) ∧ Below w.heap.size w w' := by
  obtain ⟨A0, c0, rfl, hst0⟩ := hst0.form
  cases hm : mayP cap0 ps0 with
  | false =>
    have hmay := fun W (hb : Below w.heap.size w W) => may_any cap0 _ ps0 W (hst0.below hb).sl
    rw [hm] at hmay
    clear hm hst0
    generalize ps0.length = n at *
    go_enter Try.func5, Try.ntmps5
    go_wp2_with fail
    refine (awake_any _).mono ?_
    rintro e w1 ⟨rfl, hb1⟩
    obtain ⟨hc1, -⟩ := bcell hb1
    have hB1 : Below w.heap.size w w1 := ((Below.refl _ w).alloc (Nat.le_refl _) _).trans (hb1.mono (by simp))
    go_wp2_with fail
    refine (hmay _ hB1).mono ?_
    rintro e w2 ⟨rfl, hb2⟩
    go_wp2
    go_ret
    exact ⟨rfl, hB1.trans (hb2.mono hB1.size)⟩
  | true =>
    have hmay := fun sv W h => may_any cap0 sv ps0 W h
    have hlen := may_len hm
    have hal := fun v W hs => Alloc_any v cap0 ps0 W hs (by omega)
    rw [hm] at hmay
    rw [show allocX cap0 ps0 = allocL cap0 ps0 ⟨0, 0, 0, 0, 0⟩ from by simp [allocX, hm]] at hal
    rcases alloc_law hm with hr | ⟨j, qs, hr, ⟨hj, hone⟩, hq13, hoth⟩
    · rw [hr] at hal
      clear hm hr hlen
      go_enter Try.func5, Try.ntmps5
      go_wp2_with fail
      refine (awake_any _).mono ?_
      rintro e w1 ⟨rfl, hb1⟩
      obtain ⟨hc1, hf1⟩ := bcell hb1
      have hz1 := hb1.size
      simp at hz1
      have hB1 : Below w.heap.size w w1 := ((Below.refl _ w).alloc (Nat.le_refl _) _).trans (hb1.mono (by simp))
      have hs1 := hst0.below hB1
      go_wp2_with fail
      refine (hmay _ _ hs1.sl).mono ?_
      rintro e w2 ⟨rfl, hb2⟩
      obtain ⟨hc2, hf2⟩ := bcell hb2
      have hz2 := hb2.size
      have hB2 := hB1.trans (hb2.mono hB1.size)
      have hs2 := hs1.below hb2
      have z01 : w.heap.size < w1.heap.size := by omega
      have z02 : w.heap.size < w2.heap.size := by omega
      go_wp2_with fail
      refine (hal _ _ hs2).mono ?_
      rintro e w3 ⟨v3, rfl, hst3, hb3, -⟩
      obtain ⟨A3, c3, rfl, hst3⟩ := hst3.form
      obtain ⟨hc3, -⟩ := bcell hb3
      go_wp2
      go_ret
      exact ⟨rfl, (hB2.trans (hb3.mono hB2.size)).alloc (by have := hB2.size; have := hb3.size; omega) _⟩
    · rw [hr] at hal
      have hnone := fun w => neq_page onePg onePg w
      rw [show pgEq onePg onePg = true from by decide] at hnone
      simp only [encP, onePg] at hnone
      by_cases hk0 : k < 0
      · clear hm hr hlen hoth
        have hjq : (j : Int) < (qs.length : Int) := by omega
        have hj0 : (0 : Int) ≤ (j : Int) := by omega
        go_enter Try.func5, Try.ntmps5
        go_wp2_with fail
        refine (awake_any _).mono ?_
        rintro e w1 ⟨rfl, hb1⟩
        obtain ⟨hc1, hf1⟩ := bcell hb1
        have hz1 := hb1.size
        simp at hz1
        have hB1 : Below w.heap.size w w1 := ((Below.refl _ w).alloc (Nat.le_refl _) _).trans (hb1.mono (by simp))
        have hs1 := hst0.below hB1
        go_wp2_with fail
        refine (hmay _ _ hs1.sl).mono ?_
        rintro e w2 ⟨rfl, hb2⟩
        obtain ⟨hc2, hf2⟩ := bcell hb2
        have hz2 := hb2.size
        have hB2 := hB1.trans (hb2.mono hB1.size)
        have hs2 := hs1.below hb2
        have z01 : w.heap.size < w1.heap.size := by omega
        have z02 : w.heap.size < w2.heap.size := by omega
        go_wp2_with fail
        refine (hal _ _ hs2).mono ?_
        rintro e w3 ⟨v3, rfl, hst3, hb3, -⟩
        obtain ⟨A3, c3, rfl, hst3⟩ := hst3.form
        obtain ⟨hc3, -⟩ := bcell hb3
        have hB3 := hB2.trans (hb3.mono hB2.size)
        have hz3 := hb3.size
        have z03 : w.heap.size < w3.heap.size := by omega
        obtain ⟨b3, o3, rfl, hlt3, -, hel3⟩ := hst3.elem (by omega)
        have hel := hel3 w3 (Below.refl _ _) j hj
        rw [hone] at hel
        have q0 : w3.cell? ⟨b3, o3 + j * 5, none⟩ = some (.int .i64 1) := hel 0 _ rfl
        have q1 : w3.cell? ⟨b3, o3 + j * 5 + 1, none⟩ = some (.int .i64 0) := hel 1 _ rfl
        have q2 : w3.cell? ⟨b3, o3 + j * 5 + 2, none⟩ = some (.int .i64 0) := hel 2 _ rfl
        have q3 : w3.cell? ⟨b3, o3 + j * 5 + 3, none⟩ = some (.int .i64 0) := hel 3 _ rfl
        have q4 : w3.cell? ⟨b3, o3 + j * 5 + 4, none⟩ = some (.int .i64 0) := hel 4 _ rfl
        clear hel hel3
        go_wp2
        go_ret
        exact ⟨rfl, hB3.alloc hB3.size _⟩
      · obtain ⟨k, rfl⟩ := Int.eq_ofNat_of_zero_le (Int.not_lt.1 hk0)
        by_cases hkl : (ps0.length : Int) ≤ (k : Int)
        · clear hm hr hlen hoth
          have hjq : (j : Int) < (qs.length : Int) := by omega
          have hj0 : (0 : Int) ≤ (j : Int) := by omega
          go_enter Try.func5, Try.ntmps5
          go_wp2_with fail
          refine (awake_any _).mono ?_
          rintro e w1 ⟨rfl, hb1⟩
          obtain ⟨hc1, hf1⟩ := bcell hb1
          have hz1 := hb1.size
          simp at hz1
          have hB1 : Below w.heap.size w w1 := ((Below.refl _ w).alloc (Nat.le_refl _) _).trans (hb1.mono (by simp))
          have hs1 := hst0.below hB1
          go_wp2_with fail
          refine (hmay _ _ hs1.sl).mono ?_
          rintro e w2 ⟨rfl, hb2⟩
          obtain ⟨hc2, hf2⟩ := bcell hb2
          have hz2 := hb2.size
          have hB2 := hB1.trans (hb2.mono hB1.size)
          have hs2 := hs1.below hb2
          have z01 : w.heap.size < w1.heap.size := by omega
          have z02 : w.heap.size < w2.heap.size := by omega
          go_wp2_with fail
          refine (hal _ _ hs2).mono ?_
          rintro e w3 ⟨v3, rfl, hst3, hb3, -⟩
          obtain ⟨A3, c3, rfl, hst3⟩ := hst3.form
          obtain ⟨hc3, -⟩ := bcell hb3
          have hB3 := hB2.trans (hb3.mono hB2.size)
          have hz3 := hb3.size
          have z03 : w.heap.size < w3.heap.size := by omega
          obtain ⟨b3, o3, rfl, hlt3, -, hel3⟩ := hst3.elem (by omega)
          have hel := hel3 w3 (Below.refl _ _) j hj
          rw [hone] at hel
          have q0 : w3.cell? ⟨b3, o3 + j * 5, none⟩ = some (.int .i64 1) := hel 0 _ rfl
          have q1 : w3.cell? ⟨b3, o3 + j * 5 + 1, none⟩ = some (.int .i64 0) := hel 1 _ rfl
          have q2 : w3.cell? ⟨b3, o3 + j * 5 + 2, none⟩ = some (.int .i64 0) := hel 2 _ rfl
          have q3 : w3.cell? ⟨b3, o3 + j * 5 + 3, none⟩ = some (.int .i64 0) := hel 3 _ rfl
          have q4 : w3.cell? ⟨b3, o3 + j * 5 + 4, none⟩ = some (.int .i64 0) := hel 4 _ rfl
          clear hel hel3
          go_wp2
          go_ret
          exact ⟨rfl, hB3.alloc hB3.size _⟩
        · by_cases hkj : k = j
          · obtain rfl : j = k := hkj.symm
            clear hm hr hlen hoth
            have hjq : (j : Int) < (qs.length : Int) := by omega
            have hj0 : (0 : Int) ≤ (j : Int) := by omega
            have hkl' : (j : Int) < (ps0.length : Int) := by omega
            go_enter Try.func5, Try.ntmps5
            go_wp2_with fail
            refine (awake_any _).mono ?_
            rintro e w1 ⟨rfl, hb1⟩
            obtain ⟨hc1, hf1⟩ := bcell hb1
            have hz1 := hb1.size
            simp at hz1
            have hB1 : Below w.heap.size w w1 := ((Below.refl _ w).alloc (Nat.le_refl _) _).trans (hb1.mono (by simp))
            have hs1 := hst0.below hB1
            go_wp2_with fail
            refine (hmay _ _ hs1.sl).mono ?_
            rintro e w2 ⟨rfl, hb2⟩
            obtain ⟨hc2, hf2⟩ := bcell hb2
            have hz2 := hb2.size
            have hB2 := hB1.trans (hb2.mono hB1.size)
            have hs2 := hs1.below hb2
            have z01 : w.heap.size < w1.heap.size := by omega
            have z02 : w.heap.size < w2.heap.size := by omega
            go_wp2_with fail
            refine (hal _ _ hs2).mono ?_
            rintro e w3 ⟨v3, rfl, hst3, hb3, -⟩
            obtain ⟨A3, c3, rfl, hst3⟩ := hst3.form
            obtain ⟨hc3, -⟩ := bcell hb3
            have hB3 := hB2.trans (hb3.mono hB2.size)
            have hz3 := hb3.size
            have z03 : w.heap.size < w3.heap.size := by omega
            obtain ⟨b3, o3, rfl, hlt3, -, hel3⟩ := hst3.elem (by omega)
            have hel := hel3 w3 (Below.refl _ _) j hj
            rw [hone] at hel
            have q0 : w3.cell? ⟨b3, o3 + j * 5, none⟩ = some (.int .i64 1) := hel 0 _ rfl
            have q1 : w3.cell? ⟨b3, o3 + j * 5 + 1, none⟩ = some (.int .i64 0) := hel 1 _ rfl
            have q2 : w3.cell? ⟨b3, o3 + j * 5 + 2, none⟩ = some (.int .i64 0) := hel 2 _ rfl
            have q3 : w3.cell? ⟨b3, o3 + j * 5 + 3, none⟩ = some (.int .i64 0) := hel 3 _ rfl
            have q4 : w3.cell? ⟨b3, o3 + j * 5 + 4, none⟩ = some (.int .i64 0) := hel 4 _ rfl
            clear hel hel3
            go_wp2
            go_ret
            exact ⟨rfl, hB3.alloc hB3.size _⟩
          · have hkl2 : k < ps0.length := by omega
            obtain ⟨⟨hkq, hkeq⟩, hor⟩ := hoth k hkl2 hkj
            have heq := fun w => eql_page ps0[k] ps0[k] w
            rw [show pgEq ps0[k] ps0[k] = true from by simp [pgEq]] at heq
            have hel0 := hst0.elem (by omega)
            obtain ⟨b0, o0, rfl, hlt0, -, hel0⟩ := hel0
            have hgt : (0 < ps0[k].r) = (0 < ps0[k].r) := rfl
            clear hm hr hlen hoth hgt
            have hjq : (j : Int) < (qs.length : Int) := by omega
            have hj0 : (0 : Int) ≤ (j : Int) := by omega
            have hkl' : (k : Int) < (ps0.length : Int) := by omega
            have hk0' : (0 : Int) ≤ (k : Int) := by omega
            have hkq' : (k : Int) < (qs.length : Int) := by omega
            have hkj' : ((k : Int) == (j : Int)) = false := by simp; omega
            have hs0 := fun W hb => hel0 W hb k hkl2
            generalize hX : ps0[k] = x at heq hs0 hkeq hor
            have HX := Lib.hid hX
            clear hX hel0
            simp only [encP] at heq
            have HKQ := Lib.hid hkeq
            clear hkeq
            cases hjk : decide (j < k) with
            | true =>
              have hjk' : (j : Int) < (k : Int) := by have := of_decide_eq_true hjk; omega
              clear hjk hor
              go_enter Try.func5, Try.ntmps5
              go_wp2_with fail
              refine (awake_any _).mono ?_
              rintro e w1 ⟨rfl, hb1⟩
              obtain ⟨hc1, hf1⟩ := bcell hb1
              have hz1 := hb1.size
              simp at hz1
              have hB1 : Below w.heap.size w w1 := ((Below.refl _ w).alloc (Nat.le_refl _) _).trans (hb1.mono (by simp))
              have hs1 := hst0.below hB1
              go_wp2_with fail
              refine (hmay _ _ hs1.sl).mono ?_
              rintro e w2 ⟨rfl, hb2⟩
              obtain ⟨hc2, hf2⟩ := bcell hb2
              have hz2 := hb2.size
              have hB2 := hB1.trans (hb2.mono hB1.size)
              have hs2 := hs1.below hb2
              have z01 : w.heap.size < w1.heap.size := by omega
              have z02 : w.heap.size < w2.heap.size := by omega
              go_wp2_with fail
              refine (hal _ _ hs2).mono ?_
              rintro e w3 ⟨v3, rfl, hst3, hb3, -⟩
              obtain ⟨A3, c3, rfl, hst3⟩ := hst3.form
              obtain ⟨hc3, -⟩ := bcell hb3
              have hB3 := hB2.trans (hb3.mono hB2.size)
              have hz3 := hb3.size
              have z03 : w.heap.size < w3.heap.size := by omega
              obtain ⟨b3, o3, rfl, hlt3, -, hel3⟩ := hst3.elem (by omega)
              have hel := hel3 w3 (Below.refl _ _) j hj
              rw [hone] at hel
              have q0 : w3.cell? ⟨b3, o3 + j * 5, none⟩ = some (.int .i64 1) := hel 0 _ rfl
              have q1 : w3.cell? ⟨b3, o3 + j * 5 + 1, none⟩ = some (.int .i64 0) := hel 1 _ rfl
              have q2 : w3.cell? ⟨b3, o3 + j * 5 + 2, none⟩ = some (.int .i64 0) := hel 2 _ rfl
              have q3 : w3.cell? ⟨b3, o3 + j * 5 + 3, none⟩ = some (.int .i64 0) := hel 3 _ rfl
              have q4 : w3.cell? ⟨b3, o3 + j * 5 + 4, none⟩ = some (.int .i64 0) := hel 4 _ rfl
              have hek := hel3 w3 (Below.refl _ _) k hkq
              rw [HKQ.out] at hek
              have u0 : w3.cell? ⟨b3, o3 + k * 5, none⟩ = some (.int .i64 x.r) := hek 0 _ rfl
              have u1 : w3.cell? ⟨b3, o3 + k * 5 + 1, none⟩ = some (.int .i64 x.a) := hek 1 _ rfl
              have u2 : w3.cell? ⟨b3, o3 + k * 5 + 2, none⟩ = some (.int .i64 x.b) := hek 2 _ rfl
              have u3 : w3.cell? ⟨b3, o3 + k * 5 + 3, none⟩ = some (.int .i64 x.c) := hek 3 _ rfl
              have u4 : w3.cell? ⟨b3, o3 + k * 5 + 4, none⟩ = some (.int .i64 x.d) := hek 4 _ rfl
              have hes := hs0 w3 hB3
              have t0 : w3.cell? ⟨b0, o0 + k * 5, none⟩ = some (.int .i64 x.r) := hes 0 _ rfl
              have t1 : w3.cell? ⟨b0, o0 + k * 5 + 1, none⟩ = some (.int .i64 x.a) := hes 1 _ rfl
              have t2 : w3.cell? ⟨b0, o0 + k * 5 + 2, none⟩ = some (.int .i64 x.b) := hes 2 _ rfl
              have t3 : w3.cell? ⟨b0, o0 + k * 5 + 3, none⟩ = some (.int .i64 x.c) := hes 3 _ rfl
              have t4 : w3.cell? ⟨b0, o0 + k * 5 + 4, none⟩ = some (.int .i64 x.d) := hes 4 _ rfl
              clear hel hel3 hek hes
              have hb03 : b0 < w3.heap.size := by omega
              go_wp2_with fail
              go_quiet (fail)
              go_wp2
              go_ret
              exact ⟨rfl, below_drewN (hB3.alloc hB3.size _) _⟩
            | false =>
              have hr0 : 0 < x.r := by
                have := of_decide_eq_false hjk
                rcases hor with h | h
                · exact absurd h this
                · exact h
              clear hor
              go_enter Try.func5, Try.ntmps5
              go_wp2_with fail
              refine (awake_any _).mono ?_
              rintro e w1 ⟨rfl, hb1⟩
              obtain ⟨hc1, hf1⟩ := bcell hb1
              have hz1 := hb1.size
              simp at hz1
              have hB1 : Below w.heap.size w w1 := ((Below.refl _ w).alloc (Nat.le_refl _) _).trans (hb1.mono (by simp))
              have hs1 := hst0.below hB1
              go_wp2_with fail
              refine (hmay _ _ hs1.sl).mono ?_
              rintro e w2 ⟨rfl, hb2⟩
              obtain ⟨hc2, hf2⟩ := bcell hb2
              have hz2 := hb2.size
              have hB2 := hB1.trans (hb2.mono hB1.size)
              have hs2 := hs1.below hb2
              have z01 : w.heap.size < w1.heap.size := by omega
              have z02 : w.heap.size < w2.heap.size := by omega
              go_wp2_with fail
              refine (hal _ _ hs2).mono ?_
              rintro e w3 ⟨v3, rfl, hst3, hb3, -⟩
              obtain ⟨A3, c3, rfl, hst3⟩ := hst3.form
              obtain ⟨hc3, -⟩ := bcell hb3
              have hB3 := hB2.trans (hb3.mono hB2.size)
              have hz3 := hb3.size
              have z03 : w.heap.size < w3.heap.size := by omega
              obtain ⟨b3, o3, rfl, hlt3, -, hel3⟩ := hst3.elem (by omega)
              have hel := hel3 w3 (Below.refl _ _) j hj
              rw [hone] at hel
              have q0 : w3.cell? ⟨b3, o3 + j * 5, none⟩ = some (.int .i64 1) := hel 0 _ rfl
              have q1 : w3.cell? ⟨b3, o3 + j * 5 + 1, none⟩ = some (.int .i64 0) := hel 1 _ rfl
              have q2 : w3.cell? ⟨b3, o3 + j * 5 + 2, none⟩ = some (.int .i64 0) := hel 2 _ rfl
              have q3 : w3.cell? ⟨b3, o3 + j * 5 + 3, none⟩ = some (.int .i64 0) := hel 3 _ rfl
              have q4 : w3.cell? ⟨b3, o3 + j * 5 + 4, none⟩ = some (.int .i64 0) := hel 4 _ rfl
              have hek := hel3 w3 (Below.refl _ _) k hkq
              rw [HKQ.out] at hek
              have u0 : w3.cell? ⟨b3, o3 + k * 5, none⟩ = some (.int .i64 x.r) := hek 0 _ rfl
              have u1 : w3.cell? ⟨b3, o3 + k * 5 + 1, none⟩ = some (.int .i64 x.a) := hek 1 _ rfl
              have u2 : w3.cell? ⟨b3, o3 + k * 5 + 2, none⟩ = some (.int .i64 x.b) := hek 2 _ rfl
              have u3 : w3.cell? ⟨b3, o3 + k * 5 + 3, none⟩ = some (.int .i64 x.c) := hek 3 _ rfl
              have u4 : w3.cell? ⟨b3, o3 + k * 5 + 4, none⟩ = some (.int .i64 x.d) := hek 4 _ rfl
              have hes := hs0 w3 hB3
              have t0 : w3.cell? ⟨b0, o0 + k * 5, none⟩ = some (.int .i64 x.r) := hes 0 _ rfl
              have t1 : w3.cell? ⟨b0, o0 + k * 5 + 1, none⟩ = some (.int .i64 x.a) := hes 1 _ rfl
              have t2 : w3.cell? ⟨b0, o0 + k * 5 + 2, none⟩ = some (.int .i64 x.b) := hes 2 _ rfl
              have t3 : w3.cell? ⟨b0, o0 + k * 5 + 3, none⟩ = some (.int .i64 x.c) := hes 3 _ rfl
              have t4 : w3.cell? ⟨b0, o0 + k * 5 + 4, none⟩ = some (.int .i64 x.d) := hes 4 _ rfl
              clear hel hel3 hek hes
              have hb03 : b0 < w3.heap.size := by omega
              go_wp2_with fail
              go_quiet (fail)
              go_wp2
              go_ret
              exact ⟨rfl, below_drewN (hB3.alloc hB3.size _) _⟩
end Go.Proofs.Ytelfkopoppfaaaa
