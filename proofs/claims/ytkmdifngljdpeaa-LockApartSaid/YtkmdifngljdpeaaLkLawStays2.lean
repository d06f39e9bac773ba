/- The walk of LockStays, joined. -/
import Derived.Test.YtkmdifngljdpeaaLkLawStays
namespace Go.Proofs.Ytkmdifngljdpeaa
open Go Go.RowKit

theorem take_may {now mx : Int} {ls : List Lk} (hm : mayL now mx ls = true) (i who : Int) : mayL now mx (takeL now mx ls i who).2 = true := by
  by_cases h : (takeL now mx ls i who).1 = 0
  · obtain ⟨k, rfl, _, h0, h4, hk, _, he⟩ := take_ok h
    rw [he]
    have := may_at hm k hk
    exact may_set hm k _ ⟨this.1, this.2.1, by show -1 ≤ who; omega, h4⟩
  · rw [take_err h]; exact hm
theorem give_may {now mx : Int} {ls : List Lk} (hm : mayL now mx ls = true) (i who ver : Int) : mayL now mx (giveL now mx ls i who ver).2 = true := by
  by_cases h : (giveL now mx ls i who ver).1 = 0
  · obtain ⟨k, rfl, _, h0, h4, h1, h2, hk, _, _, he⟩ := give_ok h
    rw [he]
    have := may_at hm k hk
    exact may_set hm k _ ⟨by show 0 ≤ max _ _; omega, by show max _ _ ≤ now; omega, Int.le_refl _, by show (-1 : Int) < 4; omega⟩
  · rw [give_err h]; exact hm
theorem take_at {now mx : Int} {ls : List Lk} {i who : Int} (n : Nat) (hn : n < ls.length) (ha : n < (takeL now mx ls i who).2.length) (h : (n : Int) ≠ i) : (takeL now mx ls i who).2[n] = ls[n] := by
  by_cases h1 : (takeL now mx ls i who).1 = 0
  · obtain ⟨k, rfl, _, h0, h4, hk, _, he⟩ := take_ok h1
    simp only [he]
    rw [List.getElem_set_ne (by omega)]
  · simp only [take_err h1]
theorem give_at {now mx : Int} {ls : List Lk} {i who ver : Int} (n : Nat) (hn : n < ls.length) (ha : n < (giveL now mx ls i who ver).2.length) :
    ls[n].v ≤ (giveL now mx ls i who ver).2[n].v ∧ ((n : Int) ≠ i → (giveL now mx ls i who ver).2[n] = ls[n]) := by
  by_cases h1 : (giveL now mx ls i who ver).1 = 0
  · obtain ⟨k, rfl, _, h0, h4, _, _, hk, _, _, he⟩ := give_ok h1
    simp only [he]
    by_cases e : k = n
    · subst e
      rw [List.getElem_set_self]
      exact ⟨by show _ ≤ max _ _; omega, fun h => absurd rfl h⟩
    · rw [List.getElem_set_ne e]
      exact ⟨Int.le_refl _, fun _ => rfl⟩
  · simp only [give_err h1]
    exact ⟨Int.le_refl _, fun _ => trivial⟩

theorem lockStays_walk (w : World) (v0 : Value) (now mx : Int) (ls : List Lk) (hst0 : LkV w v0 now mx ls) (_wn : okI now) (_wm : okI mx) (_hok : ∀ q ∈ ls, lkOk q) (i : Int) (_w1 : (Lit.int .i64 i).wf = true) (who : Int) (_w2 : (Lit.int .i64 who).wf = true)
    (ver : Int) (_w3 : (Lit.int .i64 ver).wf = true) (k : Int) (_w4 : (Lit.int .i64 k).wf = true) :
    Calls Try.prog 6 #[v0, .int .i64 i, .int .i64 who, .int .i64 ver, .int .i64 k] w fun e w' => e = .returned (.bool true) ∧ Below w.heap.size w w' := by
  obtain ⟨A0, c0, rfl, hst0⟩ := hst0.form
  by_cases h30 : 30 < ls.length
  · exact stays_long w A0 c0 now mx ls hst0 i who ver k h30
  have h30 : ls.length ≤ 30 := by omega
  cases hm : mayL now mx ls with
  | false => exact stays_not w A0 c0 now mx ls hst0 i who ver k h30 hm
  | true =>
    have hlA : (takeL now mx ls i who).2.length = ls.length := doL_len _ _ _ _ _ _
    have hlB : (giveL now mx ls i who ver).2.length = ls.length := doL_len _ _ _ _ _ _
    have hb := may_iff.1 hm
    refine stays_main w A0 c0 now mx ls hst0 i who ver k (takeL now mx ls i who).1 (giveL now mx ls i who ver).1 (tickL now mx ls).1 (tickL now mx ls).2.1 (tickL now mx ls).2.2 (takeL now mx ls i who).2 (giveL now mx ls i who ver).2 h30 hm rfl rfl rfl
      (take_may hm i who) (give_may hm i who ver) ?_ (fun h => take_err (by simpa using h)) (fun h => give_err (by simpa using h)) ?_ ?_ hlA hlB ?_
    · unfold tickL
      rw [if_pos hm]
      split
      · exact hm
      · rename_i h
        have : now ≠ mx := by simpa using h
        exact may_tick hm (by omega)
    · unfold tickL
      rw [if_pos hm]
      split
      · exact fun _ => rfl
      · intro h; cases h
    · unfold tickL
      rw [if_pos hm]
      split
      · show ¬ now < now; omega
      · show ¬ now + 1 < now; omega
    · intro n hn hb ha
      have := give_at (now := now) (mx := mx) (ls := ls) (i := i) (who := who) (ver := ver) n hn hb
      exact ⟨this.1, fun h => ⟨this.2 h, take_at n hn ha h⟩⟩
end Go.Proofs.Ytkmdifngljdpeaa
