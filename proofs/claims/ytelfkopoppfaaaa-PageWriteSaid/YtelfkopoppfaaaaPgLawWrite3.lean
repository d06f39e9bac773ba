/- The walk of PageWrite, joined. -/
import Derived.Test.YtelfkopoppfaaaaPgLawWrite2
import Derived.Test.YtelfkopoppfaaaaPgOpen
namespace Go.Proofs.Ytelfkopoppfaaaa
open Go Go.RowKit

set_option maxRecDepth 100000 in
set_option maxHeartbeats 1000000 in
theorem pageWrite_walk (w : World) (v0 : Value) (cap0 : Int) (ps0 : List Pg) (hst0 : StV w v0 cap0 ps0) (_wc0 : okI cap0) (_hok0 : ∀ q ∈ ps0, pgOk q) (p : Int) (_w1 : (Lit.int .i64 p).wf = true)
    (i : Int) (_w2 : (Lit.int .i64 i).wf = true) (v : Int) (_w3 : (Lit.int .i64 v).wf = true) (k : Int) (_w4 : (Lit.int .i64 k).wf = true) :
    Calls Try.prog 4 #[v0, .int .i64 p, .int .i64 i, .int .i64 v, .int .i64 k] w fun e w' => e = .returned (.bool true) ∧ Below w.heap.size w w' := by
  obtain ⟨A0, c0, rfl, hst0⟩ := hst0.form
  cases hm : mayP cap0 ps0 with
  | false =>
    have hmay := fun W (hb : Below w.heap.size w W) => may_any cap0 _ ps0 W (hst0.below hb).sl
    rw [hm] at hmay
    clear hm hst0
    generalize ps0.length = n at *
    go_enter Try.func4, Try.ntmps4
    go_wp2_with fail
    refine (awake_any _).mono ?_
    rintro e w1 ⟨rfl, hb1⟩
    obtain ⟨hc1, -⟩ := bcell hb1
    have hB1 : Below w.heap.size w w1 := ((Below.refl _ w).alloc (Nat.le_refl _) _).trans (hb1.mono (by simp))
    go_wp2_with fail
    refine (hmay _ hB1).mono ?_
    rintro e w2 ⟨rfl, hb2⟩
    go_wp2
    go_ret
    exact ⟨rfl, hB1.trans (hb2.mono hB1.size)⟩
  | true =>
    have hmW := writeL_may hm p i v
    have hlW : (writeL cap0 ps0 p i v).2.2.length ≤ 12 := by have := may_len hmW; omega
    by_cases h : (writeL cap0 ps0 p i v).2.1 = 0
    · obtain ⟨n, m, a, qs, rfl, rfl, hm4, he, hn, hr1, hnq, hqa, han, hqn, hall⟩ := write_what h
      have hr2 := (odd_bounds (may_odd hm n hn)).2
      obtain ⟨ha, hqa⟩ := List.getElem?_eq_some_iff.1 hqa
      rw [he] at hlW
      by_cases e : a = n
      · exact pw_own w A0 c0 cap0 ps0 qs n m a v k _ hst0 hm he hlW hm4 hn ha rfl hqa (by rw [beq_iff_eq]; omega) (by rw [beq_iff_eq]; exact han.1 e) hall
      · obtain ⟨hnq', hqn⟩ := List.getElem?_eq_some_iff.1 (hqn e)
        exact pw_oth w A0 c0 cap0 ps0 qs n m a v k _ hst0 hm he hlW hm4 hn ha rfl hqa (by rw [beq_eq_false_iff_ne]; omega) (by rw [beq_eq_false_iff_ne]; exact fun h => e (han.2 h)) hnq' ps0[n] hqn hr1 hr2 hall
    · have hx := writeL_err h
      exact pw_err w A0 c0 cap0 ps0 (writeL cap0 ps0 p i v).2.2 p i v k (writeL cap0 ps0 p i v).1 (writeL cap0 ps0 p i v).2.1 hst0 hm rfl hlW (by rw [bne_iff_ne]; exact h) hx.1
end Go.Proofs.Ytelfkopoppfaaaa
