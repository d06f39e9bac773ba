/- The walk of PageTwice: whichever store and words, the answer is true. -/
import Derived.Test.YtelfkopoppfaaaaPgLawTwiceS
namespace Go.Proofs.Ytelfkopoppfaaaa
open Go Go.RowKit

theorem pageTwice_walk (w : World) (v0 : Value) (cap0 : Int) (ps0 : List Pg) (hst0 : StV w v0 cap0 ps0) (_wc0 : okI cap0) (_hok0 : ∀ q ∈ ps0, pgOk q) (p : Int) (_w1 : (Lit.int .i64 p).wf = true)
    (i : Int) (_w2 : (Lit.int .i64 i).wf = true) (v : Int) (_w3 : (Lit.int .i64 v).wf = true) (j : Int) (_w4 : (Lit.int .i64 j).wf = true) (u : Int) (_w5 : (Lit.int .i64 u).wf = true) :
    Calls Try.prog 6 #[v0, .int .i64 p, .int .i64 i, .int .i64 v, .int .i64 j, .int .i64 u] w fun e w' => e = .returned (.bool true) ∧ Below w.heap.size w w' := by
  obtain ⟨A0, c0, rfl, hst0⟩ := hst0.form
  cases hm : mayP cap0 ps0 with
  | false =>
    have hmay := fun W (hb : Below w.heap.size w W) => may_any cap0 _ ps0 W (hst0.below hb).sl
    rw [hm] at hmay
    clear hm hst0
    generalize ps0.length = n at *
    go_enter Try.func6, Try.ntmps6
    go_wp2_with fail
    refine (awake_any _).mono ?_
    rintro e w1 ⟨rfl, hb1⟩
    obtain ⟨hc1, -⟩ := bcell hb1
    have hB1 : Below w.heap.size w w1 := ((Below.refl _ w).alloc (Nat.le_refl _) _).trans (hb1.mono (by simp))
    go_wp2_with fail
    refine (hmay _ hB1).mono ?_
    rintro e w2 ⟨rfl, hb2⟩
    go_wp2
    go_ret
    exact ⟨rfl, hB1.trans (hb2.mono hB1.size)⟩
  | true =>
    obtain ⟨⟨q, e1, qsA⟩, hA⟩ : ∃ x, writeL cap0 ps0 p i v = x := ⟨_, rfl⟩
    obtain ⟨⟨at_, e2, qsB⟩, hB⟩ : ∃ x, writeL cap0 qsA q j u = x := ⟨_, rfl⟩
    have hmA : mayP cap0 qsA = true := by have := writeL_may hm p i v; rwa [hA] at this
    have hqA : qsA.length ≤ 12 := by have := may_len hmA; omega
    by_cases he : e1 = 0
    · by_cases hj0 : j < 0
      · exact twice_low w A0 c0 cap0 ps0 qsA qsB p i v j u q e1 at_ e2 hst0 hm hA hB hqA (by simp [he]) hj0
      · by_cases hj : 3 < j
        · exact twice_high w A0 c0 cap0 ps0 qsA qsB p i v j u q e1 at_ e2 hst0 hm hA hB hqA (by simp [he]) (by omega) hj
        · obtain ⟨k, n, x, qs, h1, rfl, hn, hmq, ⟨hk, hx⟩, hr⟩ := write_done hm (by rw [hA]; exact he)
          rw [hA] at h1
          obtain ⟨rfl, rfl, rfl⟩ : q = k ∧ e1 = 0 ∧ qsA = qs := by simpa using h1
          obtain ⟨m, rfl⟩ : ∃ m : Nat, j = m := ⟨j.toNat, by omega⟩
          obtain ⟨g1, g2⟩ := write_again hmq hk (by rw [hx, wset_r, hr]) m (by omega) u
          have hB2 := hB
          rw [g1] at hB2
          obtain ⟨rfl, rfl, rfl⟩ : k = at_ ∧ 0 = e2 ∧ qsA.set k (wset qsA[k] m u) = qsB := by simpa using hB2
          have hkB : k < (qsA.set k (wset qsA[k] m u)).length := by simpa using hk
          have hu0 : 0 ≤ usedL cap0 qsA := by rw [usedL, if_pos hmA]; omega
          have hwj : wget (qsA.set k (wset qsA[k] m u))[k] (m : Int).toNat = u := by
            rw [List.getElem_set_self, Int.toNat_natCast, wget_wset _ _ _ _ (by omega) (by omega), if_pos rfl]
          cases hne : ((n : Int) == (m : Int)) with
          | true =>
            obtain rfl : n = m := by have h : (n : Int) = m := by simpa using hne
                                     omega
            exact twice_same w A0 c0 cap0 ps0 qsA _ p n v n u k 0 k 0 hst0 hm hA hB hqA k (by omega) (by omega) (by omega) (by omega) rfl rfl rfl rfl hkB hwj g2 hu0 hne
          | false =>
            have hwi : wget (qsA.set k (wset qsA[k] m u))[k] (n : Int).toNat = v := by
              rw [List.getElem_set_self, Int.toNat_natCast, wget_wset _ _ _ _ (by omega) (by omega), if_neg (by rintro rfl; simp at hne), hx, wget_wset _ _ _ _ (by omega) (by omega), if_pos rfl]
            exact twice_other w A0 c0 cap0 ps0 qsA _ p n v m u k 0 k 0 hst0 hm hA hB hqA k (by omega) (by omega) (by omega) (by omega) rfl rfl rfl rfl hkB hwj hwi g2 hu0 hne
    · exact twice_err w A0 c0 cap0 ps0 qsA qsB p i v j u q e1 at_ e2 hst0 hm hA hB hqA (by simpa using he)

end Go.Proofs.Ytelfkopoppfaaaa
