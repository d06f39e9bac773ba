/- The walk of PageTwice. -/
import Derived.Test.YtelfkopoppfaaaaPgLawBack
namespace Go.Proofs.Ytelfkopoppfaaaa
open Go Go.RowKit
set_option linter.unusedVariables false

/-- A word of a page. -/
def wget (x : Pg) : Nat → Int
  | 0 => x.a
  | 1 => x.b
  | 2 => x.c
  | _ => x.d

theorem wget_enc (x : Pg) (n : Nat) (h : n < 4) : (encP x)[1 + n]? = some (.int .i64 (wget x n)) := by
  match n, h with
  | 0, _ => rfl
  | 1, _ => rfl
  | 2, _ => rfl
  | 3, _ => rfl

theorem wget_wset (x : Pg) (i : Nat) (v : Int) (n : Nat) (hi : i < 4) (hn : n < 4) : wget (wset x i v) n = if i = n then v else wget x n := by
  match i, hi, n, hn with
  | 0, _, 0, _ | 0, _, 1, _ | 0, _, 2, _ | 0, _, 3, _ => rfl
  | 1, _, 0, _ | 1, _, 1, _ | 1, _, 2, _ | 1, _, 3, _ => rfl
  | 2, _, 0, _ | 2, _, 1, _ | 2, _, 2, _ | 2, _, 3, _ => rfl
  | 3, _, 0, _ | 3, _, 1, _ | 3, _, 2, _ | 3, _, 3, _ => rfl

/-- A write that is done: where the page is then, and what it is. -/
theorem write_done {cap : Int} {ps : List Pg} {p i v : Int} (hm : mayP cap ps = true) (h : (writeL cap ps p i v).2.1 = 0) :
    ∃ (k j : Nat) (x : Pg) (qs : List Pg), writeL cap ps p i v = ((k : Int), 0, qs) ∧ i = j ∧ j < 4 ∧ mayP cap qs = true ∧ (∃ hk : k < qs.length, qs[k] = wset x j v) ∧ x.r = 1 := by
  have hm2 := writeL_may hm p i v
  unfold writeL at *
  split at h
  · rename_i h1
    obtain ⟨_, k, rfl, hk, _, hr1, hr2⟩ := had_ok h1
    rw [if_pos h1] at hm2 ⊢
    split at h
    · rename_i h2
      rw [if_pos h2] at hm2 ⊢
      obtain ⟨j, rfl⟩ := Int.eq_ofNat_of_zero_le h2.1
      have hj : j < 4 := by omega
      rw [Int.toNat_natCast] at *
      split at h
      · rename_i h3
        rw [if_pos h3] at hm2 ⊢
        exact ⟨k, j, pgAt ps k, _, rfl, rfl, hj, hm2, ⟨by simpa using hk, by simp⟩, h3⟩
      · rename_i h3
        rw [if_neg h3] at hm2 ⊢
        split at h
        · rename_i h4
          rw [if_pos h4] at hm2 ⊢
          obtain ⟨k1, k2⟩ := alloc_keep cap ps (wset (pgAt ps k) j v) k hk (by omega)
          have hal : ∃ m : Nat, (allocL cap ps (wset (pgAt ps k) j v)).1 = m ∧ m ≠ k ∧ ∃ hm : m < (allocL cap ps (wset (pgAt ps k) j v)).2.2.length, (allocL cap ps (wset (pgAt ps k) j v)).2.2[m] = { wset (pgAt ps k) j v with r := 1 } := by
            unfold allocL at h4 ⊢
            rcases idxF_range freeP ps with h5 | ⟨m, hm5, h5⟩
            · rw [if_pos h5] at h4 ⊢
              by_cases h6 : (ps.length : Int) = cap
              · rw [if_pos h6] at h4; cases h4
              · rw [if_neg h6]
                exact ⟨ps.length, rfl, by omega, by simp, by simp⟩
            · rw [if_neg (by omega)]
              obtain ⟨_, hp, _⟩ := idxF_spec freeP ps m h5
              rw [h5, Int.toNat_natCast]
              refine ⟨m, rfl, ?_, by simpa using hm5, by simp⟩
              rintro rfl
              have : ps[m].r = 0 := by simpa [freeP] using hp
              rw [pgAt_get hk] at hr1
              omega
          obtain ⟨m, e1, hmk, hm6, e2⟩ := hal
          have hx : ({ wset (pgAt ps k) j v with r := 1 } : Pg) = wset { pgAt ps k with r := 1 } j v := by
            unfold wset
            repeat' split
            all_goals rfl
          refine ⟨m, j, { pgAt ps k with r := 1 }, _, by rw [e1], rfl, hj, hm2, ?_, rfl⟩
          unfold freeL
          split
          · exact ⟨by simpa using hm6, by rw [List.getElem_set_ne (Ne.symm hmk), e2, hx]⟩
          · exact ⟨by simpa using hm6, by rw [List.getElem_set_ne (Ne.symm hmk), e2, hx]⟩
        · rename_i h4
          exact absurd h h4
    · cases h
  · rename_i h1
    exact absurd h h1

/-- A write into a page that is had once. -/
theorem write_again {cap : Int} {qs : List Pg} (hm : mayP cap qs = true) {k : Nat} (hk : k < qs.length) (hr : qs[k].r = 1) (j : Nat) (hj : j < 4) (u : Int) :
    writeL cap qs k j u = ((k : Int), 0, qs.set k (wset qs[k] j u)) ∧ usedL cap (qs.set k (wset qs[k] j u)) = usedL cap qs := by
  have h1 : hadL cap qs k = 0 := had_mk hm hk (by omega)
  have h2 : (0 : Int) ≤ (j : Int) ∧ (j : Int) < 4 := by omega
  have h3 := writeL_may hm k j u
  rw [writeL, if_pos h1, if_pos h2, pgAt_get hk, if_pos hr, Int.toNat_natCast] at h3 ⊢
  refine ⟨rfl, ?_⟩
  rw [usedL, usedL, if_pos hm, if_pos h3]
  have := usedN_set hk (wset qs[k] j u)
  rw [wset_r] at this
  omega

set_option maxRecDepth 100000 in
set_option maxHeartbeats 4000000 in
theorem twice_err (w : World) (A0 : Option Addr) (c0 : Nat) (cap0 : Int) (ps0 qsA qsB : List Pg) (p i v j u : Int) (q e1 at_ e2 : Int) (hst0 : StV w (.agg #[.int .i64 cap0, .slice A0 ps0.length c0]) cap0 ps0) (hm : mayP cap0 ps0 = true)
    (hA : writeL cap0 ps0 p i v = (q, e1, qsA)) (hB : writeL cap0 qsA q j u = (at_, e2, qsB)) (hqA : qsA.length ≤ 12) (he : (e1 != 0) = true) :
    Calls Try.prog 6 #[.agg #[.int .i64 cap0, .slice A0 ps0.length c0], .int .i64 p, .int .i64 i, .int .i64 v, .int .i64 j, .int .i64 u] w fun e w' => e = .returned (.bool true) ∧ Below w.heap.size w w' := by
  have hlen := may_len hm
  have hmay := fun sv W h => may_any cap0 sv ps0 W h
  rw [hm] at hmay
  have cA := fun x W hs => Write_any x cap0 ps0 p i v W hs (by omega)
  rw [hA] at cA
  have cB := fun x W hs => Write_any x cap0 qsA q j u W hs (by omega)
  rw [hB] at cB
  clear hlen hm hA hB hqA
  go_enter Try.func6, Try.ntmps6
  have hA0 := ((Below.refl w.heap.size w).alloc (Nat.le_refl _) (.cells #[.int .i64 cap0, .slice A0 ps0.length c0] 25))
  replace hst0 := hst0.keep hA0
  have kS := Blk.new_ w 25 #[.int .i64 cap0, .slice A0 ps0.length c0] (w.heap.size) (by simp)
  have hZ0 : Below w.heap.size w _ := hA0
  go_wp2_with fail
  refine (awake_any _).mono ?_
  rintro e w1 ⟨rfl, hb1⟩
  obtain ⟨hc1, hf1⟩ := bcell hb1
  have hz1 := hb1.size
  simp at hz1
  replace hst0 := hst0.keep hb1
  replace kS := kS.keep hb1
  have hY1 := hZ0.trans (hb1.mono hZ0.size)
  have zkS_1 : w.heap.size < w1.heap.size := by omega
  have hZ1 : Below w.heap.size w w1 := hY1
  go_wp2_with fail
  refine (hmay _ _ hst0.sl).mono ?_
  rintro e w2 ⟨rfl, hb2⟩
  obtain ⟨hc2, hf2⟩ := bcell hb2
  have hz2 := hb2.size
  replace hst0 := hst0.keep hb2
  replace kS := kS.keep hb2
  have hY2 := hZ1.trans (hb2.mono hZ1.size)
  have zkS_2 : w.heap.size < w2.heap.size := by omega
  have hZ2 : Below w.heap.size w w2 := hY2
  go_wp2_with fail
  refine (cA _ _ hst0).mono ?_
  rintro e w3 ⟨v3, rfl, hstA, hb3⟩
  obtain ⟨hc3, hf3⟩ := bcell hb3
  have hz3 := hb3.size
  replace hst0 := hst0.keep hb3
  replace kS := kS.keep hb3
  have hY3 := hZ2.trans (hb3.mono hZ2.size)
  have zkS_3 : w.heap.size < w3.heap.size := by omega
  obtain ⟨AA, dA, rfl, hstA⟩ := hstA.form
  have hA3 := ((Below.refl w3.heap.size w3).alloc (Nat.le_refl _) (.cells #[.int .i64 cap0, .slice AA qsA.length dA] 25))
  replace hst0 := hst0.keep hA3
  replace kS := kS.keep hA3
  replace hstA := hstA.keep hA3
  have kA := Blk.new_ w3 25 #[.int .i64 cap0, .slice AA qsA.length dA] (w3.heap.size) (by simp)
  have hZ3 : Below w.heap.size w _ := hY3.trans (hA3.mono hY3.size)
  go_wp2_with fail
  refine (cB _ _ hstA).mono ?_
  rintro e w4 ⟨v4, rfl, hstB, hb4⟩
  obtain ⟨hc4, hf4⟩ := bcell hb4
  have hz4 := hb4.size
  simp at hz4
  replace hst0 := hst0.keep hb4
  replace kS := kS.keep hb4
  replace hstA := hstA.keep hb4
  replace kA := kA.keep hb4
  have hY4 := hZ3.trans (hb4.mono hZ3.size)
  have zkS_4 : w.heap.size < w4.heap.size := by omega
  have zkA_4 : w3.heap.size < w4.heap.size := by omega
  obtain ⟨AB, dB, rfl, hstB⟩ := hstB.form
  have hA4 := ((Below.refl w4.heap.size w4).alloc (Nat.le_refl _) (.cells #[.int .i64 cap0, .slice AB qsB.length dB] 25))
  replace hst0 := hst0.keep hA4
  replace kS := kS.keep hA4
  replace hstA := hstA.keep hA4
  replace kA := kA.keep hA4
  replace hstB := hstB.keep hA4
  have kB := Blk.new_ w4 25 #[.int .i64 cap0, .slice AB qsB.length dB] (w4.heap.size) (by simp)
  have hZ4 : Below w.heap.size w _ := hY4.trans (hA4.mono hY4.size)
  go_wp2
  go_ret
  exact ⟨rfl, hZ4⟩

set_option maxRecDepth 100000 in
set_option maxHeartbeats 4000000 in
theorem twice_low (w : World) (A0 : Option Addr) (c0 : Nat) (cap0 : Int) (ps0 qsA qsB : List Pg) (p i v j u : Int) (q e1 at_ e2 : Int) (hst0 : StV w (.agg #[.int .i64 cap0, .slice A0 ps0.length c0]) cap0 ps0) (hm : mayP cap0 ps0 = true)
    (hA : writeL cap0 ps0 p i v = (q, e1, qsA)) (hB : writeL cap0 qsA q j u = (at_, e2, qsB)) (hqA : qsA.length ≤ 12) (he : (e1 != 0) = false) (hj : j < 0) :
    Calls Try.prog 6 #[.agg #[.int .i64 cap0, .slice A0 ps0.length c0], .int .i64 p, .int .i64 i, .int .i64 v, .int .i64 j, .int .i64 u] w fun e w' => e = .returned (.bool true) ∧ Below w.heap.size w w' := by
  have hlen := may_len hm
  have hmay := fun sv W h => may_any cap0 sv ps0 W h
  rw [hm] at hmay
  have cA := fun x W hs => Write_any x cap0 ps0 p i v W hs (by omega)
  rw [hA] at cA
  have cB := fun x W hs => Write_any x cap0 qsA q j u W hs (by omega)
  rw [hB] at cB
  clear hlen hm hA hB hqA
  go_enter Try.func6, Try.ntmps6
  have hA0 := ((Below.refl w.heap.size w).alloc (Nat.le_refl _) (.cells #[.int .i64 cap0, .slice A0 ps0.length c0] 25))
  replace hst0 := hst0.keep hA0
  have kS := Blk.new_ w 25 #[.int .i64 cap0, .slice A0 ps0.length c0] (w.heap.size) (by simp)
  have hZ0 : Below w.heap.size w _ := hA0
  go_wp2_with fail
  refine (awake_any _).mono ?_
  rintro e w1 ⟨rfl, hb1⟩
  obtain ⟨hc1, hf1⟩ := bcell hb1
  have hz1 := hb1.size
  simp at hz1
  replace hst0 := hst0.keep hb1
  replace kS := kS.keep hb1
  have hY1 := hZ0.trans (hb1.mono hZ0.size)
  have zkS_1 : w.heap.size < w1.heap.size := by omega
  have hZ1 : Below w.heap.size w w1 := hY1
  go_wp2_with fail
  refine (hmay _ _ hst0.sl).mono ?_
  rintro e w2 ⟨rfl, hb2⟩
  obtain ⟨hc2, hf2⟩ := bcell hb2
  have hz2 := hb2.size
  replace hst0 := hst0.keep hb2
  replace kS := kS.keep hb2
  have hY2 := hZ1.trans (hb2.mono hZ1.size)
  have zkS_2 : w.heap.size < w2.heap.size := by omega
  have hZ2 : Below w.heap.size w w2 := hY2
  go_wp2_with fail
  refine (cA _ _ hst0).mono ?_
  rintro e w3 ⟨v3, rfl, hstA, hb3⟩
  obtain ⟨hc3, hf3⟩ := bcell hb3
  have hz3 := hb3.size
  replace hst0 := hst0.keep hb3
  replace kS := kS.keep hb3
  have hY3 := hZ2.trans (hb3.mono hZ2.size)
  have zkS_3 : w.heap.size < w3.heap.size := by omega
  obtain ⟨AA, dA, rfl, hstA⟩ := hstA.form
  have hA3 := ((Below.refl w3.heap.size w3).alloc (Nat.le_refl _) (.cells #[.int .i64 cap0, .slice AA qsA.length dA] 25))
  replace hst0 := hst0.keep hA3
  replace kS := kS.keep hA3
  replace hstA := hstA.keep hA3
  have kA := Blk.new_ w3 25 #[.int .i64 cap0, .slice AA qsA.length dA] (w3.heap.size) (by simp)
  have hZ3 : Below w.heap.size w _ := hY3.trans (hA3.mono hY3.size)
  go_wp2_with fail
  refine (cB _ _ hstA).mono ?_
  rintro e w4 ⟨v4, rfl, hstB, hb4⟩
  obtain ⟨hc4, hf4⟩ := bcell hb4
  have hz4 := hb4.size
  simp at hz4
  replace hst0 := hst0.keep hb4
  replace kS := kS.keep hb4
  replace hstA := hstA.keep hb4
  replace kA := kA.keep hb4
  have hY4 := hZ3.trans (hb4.mono hZ3.size)
  have zkS_4 : w.heap.size < w4.heap.size := by omega
  have zkA_4 : w3.heap.size < w4.heap.size := by omega
  obtain ⟨AB, dB, rfl, hstB⟩ := hstB.form
  have hA4 := ((Below.refl w4.heap.size w4).alloc (Nat.le_refl _) (.cells #[.int .i64 cap0, .slice AB qsB.length dB] 25))
  replace hst0 := hst0.keep hA4
  replace kS := kS.keep hA4
  replace hstA := hstA.keep hA4
  replace kA := kA.keep hA4
  replace hstB := hstB.keep hA4
  have kB := Blk.new_ w4 25 #[.int .i64 cap0, .slice AB qsB.length dB] (w4.heap.size) (by simp)
  have hZ4 : Below w.heap.size w _ := hY4.trans (hA4.mono hY4.size)
  go_wp2
  go_ret
  exact ⟨rfl, hZ4⟩

set_option maxRecDepth 100000 in
set_option maxHeartbeats 4000000 in
theorem twice_high (w : World) (A0 : Option Addr) (c0 : Nat) (cap0 : Int) (ps0 qsA qsB : List Pg) (p i v j u : Int) (q e1 at_ e2 : Int) (hst0 : StV w (.agg #[.int .i64 cap0, .slice A0 ps0.length c0]) cap0 ps0) (hm : mayP cap0 ps0 = true)
    (hA : writeL cap0 ps0 p i v = (q, e1, qsA)) (hB : writeL cap0 qsA q j u = (at_, e2, qsB)) (hqA : qsA.length ≤ 12) (he : (e1 != 0) = false) (hj0 : 0 ≤ j) (hj : 3 < j) :
    Calls Try.prog 6 #[.agg #[.int .i64 cap0, .slice A0 ps0.length c0], .int .i64 p, .int .i64 i, .int .i64 v, .int .i64 j, .int .i64 u] w fun e w' => e = .returned (.bool true) ∧ Below w.heap.size w w' := by
  have hlen := may_len hm
  have hmay := fun sv W h => may_any cap0 sv ps0 W h
  rw [hm] at hmay
  have cA := fun x W hs => Write_any x cap0 ps0 p i v W hs (by omega)
  rw [hA] at cA
  have cB := fun x W hs => Write_any x cap0 qsA q j u W hs (by omega)
  rw [hB] at cB
  clear hlen hm hA hB hqA
  go_enter Try.func6, Try.ntmps6
  have hA0 := ((Below.refl w.heap.size w).alloc (Nat.le_refl _) (.cells #[.int .i64 cap0, .slice A0 ps0.length c0] 25))
  replace hst0 := hst0.keep hA0
  have kS := Blk.new_ w 25 #[.int .i64 cap0, .slice A0 ps0.length c0] (w.heap.size) (by simp)
  have hZ0 : Below w.heap.size w _ := hA0
  go_wp2_with fail
  refine (awake_any _).mono ?_
  rintro e w1 ⟨rfl, hb1⟩
  obtain ⟨hc1, hf1⟩ := bcell hb1
  have hz1 := hb1.size
  simp at hz1
  replace hst0 := hst0.keep hb1
  replace kS := kS.keep hb1
  have hY1 := hZ0.trans (hb1.mono hZ0.size)
  have zkS_1 : w.heap.size < w1.heap.size := by omega
  have hZ1 : Below w.heap.size w w1 := hY1
  go_wp2_with fail
  refine (hmay _ _ hst0.sl).mono ?_
  rintro e w2 ⟨rfl, hb2⟩
  obtain ⟨hc2, hf2⟩ := bcell hb2
  have hz2 := hb2.size
  replace hst0 := hst0.keep hb2
  replace kS := kS.keep hb2
  have hY2 := hZ1.trans (hb2.mono hZ1.size)
  have zkS_2 : w.heap.size < w2.heap.size := by omega
  have hZ2 : Below w.heap.size w w2 := hY2
  go_wp2_with fail
  refine (cA _ _ hst0).mono ?_
  rintro e w3 ⟨v3, rfl, hstA, hb3⟩
  obtain ⟨hc3, hf3⟩ := bcell hb3
  have hz3 := hb3.size
  replace hst0 := hst0.keep hb3
  replace kS := kS.keep hb3
  have hY3 := hZ2.trans (hb3.mono hZ2.size)
  have zkS_3 : w.heap.size < w3.heap.size := by omega
  obtain ⟨AA, dA, rfl, hstA⟩ := hstA.form
  have hA3 := ((Below.refl w3.heap.size w3).alloc (Nat.le_refl _) (.cells #[.int .i64 cap0, .slice AA qsA.length dA] 25))
  replace hst0 := hst0.keep hA3
  replace kS := kS.keep hA3
  replace hstA := hstA.keep hA3
  have kA := Blk.new_ w3 25 #[.int .i64 cap0, .slice AA qsA.length dA] (w3.heap.size) (by simp)
  have hZ3 : Below w.heap.size w _ := hY3.trans (hA3.mono hY3.size)
  go_wp2_with fail
  refine (cB _ _ hstA).mono ?_
  rintro e w4 ⟨v4, rfl, hstB, hb4⟩
  obtain ⟨hc4, hf4⟩ := bcell hb4
  have hz4 := hb4.size
  simp at hz4
  replace hst0 := hst0.keep hb4
  replace kS := kS.keep hb4
  replace hstA := hstA.keep hb4
  replace kA := kA.keep hb4
  have hY4 := hZ3.trans (hb4.mono hZ3.size)
  have zkS_4 : w.heap.size < w4.heap.size := by omega
  have zkA_4 : w3.heap.size < w4.heap.size := by omega
  obtain ⟨AB, dB, rfl, hstB⟩ := hstB.form
  have hA4 := ((Below.refl w4.heap.size w4).alloc (Nat.le_refl _) (.cells #[.int .i64 cap0, .slice AB qsB.length dB] 25))
  replace hst0 := hst0.keep hA4
  replace kS := kS.keep hA4
  replace hstA := hstA.keep hA4
  replace kA := kA.keep hA4
  replace hstB := hstB.keep hA4
  have kB := Blk.new_ w4 25 #[.int .i64 cap0, .slice AB qsB.length dB] (w4.heap.size) (by simp)
  have hZ4 : Below w.heap.size w _ := hY4.trans (hA4.mono hY4.size)
  go_wp2
  go_ret
  exact ⟨rfl, hZ4⟩

set_option maxRecDepth 100000 in
set_option maxHeartbeats 4000000 in
theorem twice_other (w : World) (A0 : Option Addr) (c0 : Nat) (cap0 : Int) (ps0 qsA qsB : List Pg) (p i v j u : Int) (q e1 at_ e2 : Int) (hst0 : StV w (.agg #[.int .i64 cap0, .slice A0 ps0.length c0]) cap0 ps0) (hm : mayP cap0 ps0 = true)
    (hA : writeL cap0 ps0 p i v = (q, e1, qsA)) (hB : writeL cap0 qsA q j u = (at_, e2, qsB)) (hqA : qsA.length ≤ 12) (k : Nat) (hj0 : 0 ≤ j) (hj4 : j < 4) (hn0 : 0 ≤ i) (hn4 : i < 4) (he : e1 = 0) (he2 : e2 = 0) (hq : q = k) (hat : at_ = k) (hk : k < qsB.length) (hwj : wget qsB[k] j.toNat = u) (hwi : wget qsB[k] i.toNat = v) (hus : usedL cap0 qsB = usedL cap0 qsA) (hu0 : 0 ≤ usedL cap0 qsA) (hne : (i == j) = false) :
    Calls Try.prog 6 #[.agg #[.int .i64 cap0, .slice A0 ps0.length c0], .int .i64 p, .int .i64 i, .int .i64 v, .int .i64 j, .int .i64 u] w fun e w' => e = .returned (.bool true) ∧ Below w.heap.size w w' := by
  have hlen := may_len hm
  have hmay := fun sv W h => may_any cap0 sv ps0 W h
  rw [hm] at hmay
  have cA := fun x W hs => Write_any x cap0 ps0 p i v W hs (by omega)
  rw [hA] at cA
  have cB := fun x W hs => Write_any x cap0 qsA q j u W hs (by omega)
  rw [hB] at cB
  clear hlen hm hA hB hqA
  subst he he2 hq hat
  have hub := fun x W hs => Used_any x cap0 qsB W hs
  have hua := fun x W hs => Used_any x cap0 qsA W hs
  rw [hus] at hub
  clear hus
  generalize usedL cap0 qsA = U at hub hua hu0
  have hkl : (k : Int) < (qsB.length : Int) := by omega
  have hk0 : (0 : Int) ≤ (k : Int) := by omega
  go_enter Try.func6, Try.ntmps6
  have hA0 := ((Below.refl w.heap.size w).alloc (Nat.le_refl _) (.cells #[.int .i64 cap0, .slice A0 ps0.length c0] 25))
  replace hst0 := hst0.keep hA0
  have kS := Blk.new_ w 25 #[.int .i64 cap0, .slice A0 ps0.length c0] (w.heap.size) (by simp)
  have hZ0 : Below w.heap.size w _ := hA0
  go_wp2_with fail
  refine (awake_any _).mono ?_
  rintro e w1 ⟨rfl, hb1⟩
  obtain ⟨hc1, hf1⟩ := bcell hb1
  have hz1 := hb1.size
  simp at hz1
  replace hst0 := hst0.keep hb1
  replace kS := kS.keep hb1
  have hY1 := hZ0.trans (hb1.mono hZ0.size)
  have zkS_1 : w.heap.size < w1.heap.size := by omega
  have hZ1 : Below w.heap.size w w1 := hY1
  go_wp2_with fail
  refine (hmay _ _ hst0.sl).mono ?_
  rintro e w2 ⟨rfl, hb2⟩
  obtain ⟨hc2, hf2⟩ := bcell hb2
  have hz2 := hb2.size
  replace hst0 := hst0.keep hb2
  replace kS := kS.keep hb2
  have hY2 := hZ1.trans (hb2.mono hZ1.size)
  have zkS_2 : w.heap.size < w2.heap.size := by omega
  have hZ2 : Below w.heap.size w w2 := hY2
  go_wp2_with fail
  refine (cA _ _ hst0).mono ?_
  rintro e w3 ⟨v3, rfl, hstA, hb3⟩
  obtain ⟨hc3, hf3⟩ := bcell hb3
  have hz3 := hb3.size
  replace hst0 := hst0.keep hb3
  replace kS := kS.keep hb3
  have hY3 := hZ2.trans (hb3.mono hZ2.size)
  have zkS_3 : w.heap.size < w3.heap.size := by omega
  obtain ⟨AA, dA, rfl, hstA⟩ := hstA.form
  have hA3 := ((Below.refl w3.heap.size w3).alloc (Nat.le_refl _) (.cells #[.int .i64 cap0, .slice AA qsA.length dA] 25))
  replace hst0 := hst0.keep hA3
  replace kS := kS.keep hA3
  replace hstA := hstA.keep hA3
  have kA := Blk.new_ w3 25 #[.int .i64 cap0, .slice AA qsA.length dA] (w3.heap.size) (by simp)
  have hZ3 : Below w.heap.size w _ := hY3.trans (hA3.mono hY3.size)
  go_wp2_with fail
  refine (cB _ _ hstA).mono ?_
  rintro e w4 ⟨v4, rfl, hstB, hb4⟩
  obtain ⟨hc4, hf4⟩ := bcell hb4
  have hz4 := hb4.size
  simp at hz4
  replace hst0 := hst0.keep hb4
  replace kS := kS.keep hb4
  replace hstA := hstA.keep hb4
  replace kA := kA.keep hb4
  have hY4 := hZ3.trans (hb4.mono hZ3.size)
  have zkS_4 : w.heap.size < w4.heap.size := by omega
  have zkA_4 : w3.heap.size < w4.heap.size := by omega
  obtain ⟨AB, dB, rfl, hstB⟩ := hstB.form
  obtain ⟨bB, oB, rfl, hltB, -, helB⟩ := hstB.elem (by omega)
  have fj := fun W hW => helB W hW k hk (1 + j.toNat) _ (wget_enc qsB[k] j.toNat (by omega))
  rw [hwj] at fj
  have fi := fun W hW => helB W hW k hk (1 + i.toNat) _ (wget_enc qsB[k] i.toNat (by omega))
  rw [hwi] at fi
  clear helB hwj hwi
  have xj : w4.cell? ⟨bB, oB + k * 5 + 1 + j.toNat, none⟩ = some (.int .i64 u) := by have := fj w4 (Below.refl _ _); rwa [show oB + k * 5 + (1 + j.toNat) = oB + k * 5 + 1 + j.toNat from by omega] at this
  have xi : w4.cell? ⟨bB, oB + k * 5 + 1 + i.toNat, none⟩ = some (.int .i64 v) := by have := fi w4 (Below.refl _ _); rwa [show oB + k * 5 + (1 + i.toNat) = oB + k * 5 + 1 + i.toNat from by omega] at this
  clear fj fi
  go_wp2_with fail
  have bz4 := (Below.refl w4.heap.size w4).alloc (Nat.le_refl _) (.cells #[.int .i64 cap0, .slice (some ⟨bB, oB, none⟩) qsB.length dB] 25)
  have hA4 := ((Below.refl w4.heap.size w4).alloc (Nat.le_refl _) (.cells #[.int .i64 cap0, .slice (some ⟨bB, oB, none⟩) qsB.length dB] 25))
  replace hst0 := hst0.keep hA4
  replace kS := kS.keep hA4
  replace hstA := hstA.keep hA4
  replace kA := kA.keep hA4
  replace hstB := hstB.keep hA4
  have kB := Blk.new_ w4 25 #[.int .i64 cap0, .slice (some ⟨bB, oB, none⟩) qsB.length dB] (w4.heap.size) (by simp)
  have hZ4 : Below w.heap.size w _ := hY4.trans (hA4.mono hY4.size)
  obtain ⟨w5, hw5⟩ : ∃ x, (w4.alloc (.cells #[.int .i64 cap0, .slice (some ⟨bB, oB, none⟩) qsB.length dB] 25)) = x := ⟨_, rfl⟩
  rw [hw5] at hst0
  rw [hw5] at kS
  rw [hw5] at hstA
  rw [hw5] at kA
  rw [hw5] at hstB
  rw [hw5] at kB
  have hY5 := hZ4
  rw [hw5] at hY5 ⊢
  have kS_lt := kS.lt
  have kS_0 : w5.cell? ⟨w.heap.size, 0, none⟩ = some (.int .i64 cap0) := by rw [kS.cell]; rfl
  have kS_1 : w5.cell? ⟨w.heap.size, 1, none⟩ = some (.slice A0 ps0.length c0) := by rw [kS.cell]; rfl
  have kA_lt := kA.lt
  have kA_0 : w5.cell? ⟨w3.heap.size, 0, none⟩ = some (.int .i64 cap0) := by rw [kA.cell]; rfl
  have kA_1 : w5.cell? ⟨w3.heap.size, 1, none⟩ = some (.slice AA qsA.length dA) := by rw [kA.cell]; rfl
  have kB_lt := kB.lt
  have kB_0 : w5.cell? ⟨w4.heap.size, 0, none⟩ = some (.int .i64 cap0) := by rw [kB.cell]; rfl
  have kB_1 : w5.cell? ⟨w4.heap.size, 1, none⟩ = some (.slice (some ⟨bB, oB, none⟩) qsB.length dB) := by rw [kB.cell]; rfl
  rw [hw5] at bz4
  have yj := (bz4.cell (p := ⟨bB, oB + k * 5 + 1 + j.toNat, none⟩) hltB).trans xj
  have yi := (bz4.cell (p := ⟨bB, oB + k * 5 + 1 + i.toNat, none⟩) hltB).trans xi
  have hltB2 : bB < w5.heap.size := Nat.lt_of_lt_of_le hltB bz4.size
  have BW := (Below.refl w5.heap.size w5).drew
  first
  | (go_region_held3 (fun w' => w'.cell? ⟨w.heap.size, 0, none⟩ = some (.int .i64 cap0) ∧ w'.cell? ⟨w.heap.size, 1, none⟩ = some (.slice A0 ps0.length c0) ∧ w'.cell? ⟨w3.heap.size, 0, none⟩ = some (.int .i64 cap0) ∧ w'.cell? ⟨w3.heap.size, 1, none⟩ = some (.slice AA qsA.length dA) ∧ w'.cell? ⟨w4.heap.size, 0, none⟩ = some (.int .i64 cap0) ∧ w'.cell? ⟨w4.heap.size, 1, none⟩ = some (.slice (some ⟨bB, oB, none⟩) qsB.length dB) ∧ w'.cell? ⟨bB, oB + k * 5 + 1 + j.toNat, none⟩ = some (.int .i64 u) ∧ w'.cell? ⟨bB, oB + k * 5 + 1 + i.toNat, none⟩ = some (.int .i64 v) ∧ Below w5.heap.size w5 w')
      (first | exact ⟨(BW.cell (p := ⟨w.heap.size, 0, none⟩) kS_lt).trans kS_0, (BW.cell (p := ⟨w.heap.size, 1, none⟩) kS_lt).trans kS_1, (BW.cell (p := ⟨w3.heap.size, 0, none⟩) kA_lt).trans kA_0, (BW.cell (p := ⟨w3.heap.size, 1, none⟩) kA_lt).trans kA_1, (BW.cell (p := ⟨w4.heap.size, 0, none⟩) kB_lt).trans kB_0, (BW.cell (p := ⟨w4.heap.size, 1, none⟩) kB_lt).trans kB_1, (BW.cell (p := ⟨bB, oB + k * 5 + 1 + j.toNat, none⟩) hltB2).trans yj, (BW.cell (p := ⟨bB, oB + k * 5 + 1 + i.toNat, none⟩) hltB2).trans yi, BW⟩ | exact ⟨(hX.cell (p := ⟨w.heap.size, 0, none⟩) kS_lt).trans kS_0, (hX.cell (p := ⟨w.heap.size, 1, none⟩) kS_lt).trans kS_1, (hX.cell (p := ⟨w3.heap.size, 0, none⟩) kA_lt).trans kA_0, (hX.cell (p := ⟨w3.heap.size, 1, none⟩) kA_lt).trans kA_1, (hX.cell (p := ⟨w4.heap.size, 0, none⟩) kB_lt).trans kB_0, (hX.cell (p := ⟨w4.heap.size, 1, none⟩) kB_lt).trans kB_1, (hX.cell (p := ⟨bB, oB + k * 5 + 1 + j.toNat, none⟩) hltB2).trans yj, (hX.cell (p := ⟨bB, oB + k * 5 + 1 + i.toNat, none⟩) hltB2).trans yi, hX⟩ | go_keep)
      (first | (go_at_call_of 13 (Value.agg #[Value.int IntKind.i64 cap0, Value.slice (some ⟨bB, oB, none⟩) qsB.length dB]); refine (hub _ _ (hstB.keep (‹World.cell? _ _ = _ ∧ World.cell? _ _ = _ ∧ World.cell? _ _ = _ ∧ World.cell? _ _ = _ ∧ World.cell? _ _ = _ ∧ World.cell? _ _ = _ ∧ World.cell? _ _ = _ ∧ World.cell? _ _ = _ ∧ Below _ _ _›.2.2.2.2.2.2.2.2))).mono ?_; rintro e w' ⟨rfl, hb'⟩; have hX := (‹World.cell? _ _ = _ ∧ World.cell? _ _ = _ ∧ World.cell? _ _ = _ ∧ World.cell? _ _ = _ ∧ World.cell? _ _ = _ ∧ World.cell? _ _ = _ ∧ World.cell? _ _ = _ ∧ World.cell? _ _ = _ ∧ Below _ _ _›.2.2.2.2.2.2.2.2).trans (hb'.mono (‹World.cell? _ _ = _ ∧ World.cell? _ _ = _ ∧ World.cell? _ _ = _ ∧ World.cell? _ _ = _ ∧ World.cell? _ _ = _ ∧ World.cell? _ _ = _ ∧ World.cell? _ _ = _ ∧ World.cell? _ _ = _ ∧ Below _ _ _›.2.2.2.2.2.2.2.2).size)) | (go_at_call 13; refine (hua _ _ (hstA.keep (‹World.cell? _ _ = _ ∧ World.cell? _ _ = _ ∧ World.cell? _ _ = _ ∧ World.cell? _ _ = _ ∧ World.cell? _ _ = _ ∧ World.cell? _ _ = _ ∧ World.cell? _ _ = _ ∧ World.cell? _ _ = _ ∧ Below _ _ _›.2.2.2.2.2.2.2.2))).mono ?_; rintro e w' ⟨rfl, hb'⟩; have hX := (‹World.cell? _ _ = _ ∧ World.cell? _ _ = _ ∧ World.cell? _ _ = _ ∧ World.cell? _ _ = _ ∧ World.cell? _ _ = _ ∧ World.cell? _ _ = _ ∧ World.cell? _ _ = _ ∧ World.cell? _ _ = _ ∧ Below _ _ _›.2.2.2.2.2.2.2.2).trans (hb'.mono (‹World.cell? _ _ = _ ∧ World.cell? _ _ = _ ∧ World.cell? _ _ = _ ∧ World.cell? _ _ = _ ∧ World.cell? _ _ = _ ∧ World.cell? _ _ = _ ∧ World.cell? _ _ = _ ∧ World.cell? _ _ = _ ∧ Below _ _ _›.2.2.2.2.2.2.2.2).size))))
  | fail
  obtain ⟨w6, hw6⟩ : ∃ x, w' = x := ⟨_, rfl⟩
  have hb6 := hX
  rw [hw6] at hb6 ⊢
  clear hw6 hX BW
  replace hst0 := hst0.keep hb6
  replace kS := kS.keep hb6
  replace hstA := hstA.keep hb6
  replace kA := kA.keep hb6
  replace hstB := hstB.keep hb6
  replace kB := kB.keep hb6
  have hY6 := hY5.trans (hb6.mono hY5.size)
  clear kS_0
  clear kS_1
  clear kS_lt
  clear kA_0
  clear kA_1
  clear kA_lt
  clear kB_0
  clear kB_1
  clear kB_lt
  have kS_lt := kS.lt
  have kS_0 : w6.cell? ⟨w.heap.size, 0, none⟩ = some (.int .i64 cap0) := by rw [kS.cell]; rfl
  have kS_1 : w6.cell? ⟨w.heap.size, 1, none⟩ = some (.slice A0 ps0.length c0) := by rw [kS.cell]; rfl
  have kA_lt := kA.lt
  have kA_0 : w6.cell? ⟨w3.heap.size, 0, none⟩ = some (.int .i64 cap0) := by rw [kA.cell]; rfl
  have kA_1 : w6.cell? ⟨w3.heap.size, 1, none⟩ = some (.slice AA qsA.length dA) := by rw [kA.cell]; rfl
  have kB_lt := kB.lt
  have kB_0 : w6.cell? ⟨w4.heap.size, 0, none⟩ = some (.int .i64 cap0) := by rw [kB.cell]; rfl
  have kB_1 : w6.cell? ⟨w4.heap.size, 1, none⟩ = some (.slice (some ⟨bB, oB, none⟩) qsB.length dB) := by rw [kB.cell]; rfl
  go_wp2
  go_ret
  exact ⟨rfl, hY6⟩

end Go.Proofs.Ytelfkopoppfaaaa
