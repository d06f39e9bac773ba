/- What a write that is done leaves, place by place: plain lists, no program. -/
import Derived.Test.YtelfkopoppfaaaaPgLawTwice
namespace Go.Proofs.Ytelfkopoppfaaaa
open Go

theorem alloc_what {cap : Int} {ps : List Pg} {x : Pg} (h : (allocL cap ps x).2.1 = 0) :
    ∃ (a : Nat) (L : List Pg), allocL cap ps x = ((a : Int), 0, L) ∧ L[a]? = some { x with r := 1 } ∧ (∀ k, k < ps.length → k ≠ a → L[k]? = ps[k]?) ∧ (∀ k (hk : k < ps.length), ps[k].r ≠ 0 → k ≠ a) := by
  unfold allocL at h ⊢
  rcases idxF_range freeP ps with h5 | ⟨m, hm5, h5⟩
  · rw [if_pos h5] at h ⊢
    by_cases h6 : (ps.length : Int) = cap
    · rw [if_pos h6] at h; cases h
    · rw [if_neg h6]
      exact ⟨ps.length, _, rfl, by simp, fun k hk _ => by rw [List.getElem?_append_left hk], fun k hk _ => by omega⟩
  · rw [if_neg (by omega)]
    obtain ⟨_, hp, _⟩ := idxF_spec freeP ps m h5
    rw [h5, Int.toNat_natCast]
    refine ⟨m, _, rfl, by simp [hm5], fun k hk hne => by rw [List.getElem?_set_ne (Ne.symm hne)], ?_⟩
    rintro k hk hr rfl
    have : ps[k].r = 0 := by simpa [freeP] using hp
    exact hr this

/-- A write that is done, place by place. -/
theorem write_what {cap : Int} {ps : List Pg} {p i v : Int} (h : (writeL cap ps p i v).2.1 = 0) :
    ∃ (n m a : Nat) (qs : List Pg), p = n ∧ i = m ∧ m < 4 ∧ writeL cap ps p i v = ((a : Int), 0, qs) ∧ ∃ hn : n < ps.length, 1 ≤ ps[n].r ∧ n < qs.length ∧
      qs[a]? = some { wset ps[n] m v with r := 1 } ∧ (a = n ↔ ps[n].r = 1) ∧ (a ≠ n → qs[n]? = some { ps[n] with r := ps[n].r - 1 }) ∧ (∀ k, k < ps.length → k ≠ n → k ≠ a → qs[k]? = ps[k]?) := by
  unfold writeL at *
  split at h
  · rename_i h1
    obtain ⟨_, n, rfl, hn, _, hr1, hr2⟩ := had_ok h1
    rw [if_pos h1]
    split at h
    · rename_i h2
      rw [if_pos h2]
      obtain ⟨m, rfl⟩ := Int.eq_ofNat_of_zero_le h2.1
      have hj : m < 4 := by omega
      rw [pgAt_get hn] at *
      rw [Int.toNat_natCast] at *
      split at h
      · rename_i h3
        rw [if_pos h3]
        refine ⟨n, m, n, _, rfl, rfl, hj, rfl, hn, hr1, by simpa using hn, ?_, by simp [h3], fun h => absurd rfl h, fun k hk h1 _ => by rw [List.getElem?_set_ne (Ne.symm h1)]⟩
        have : wset ps[n] (m : Int) v = { wset ps[n] m v with r := 1 } := by
          have := wset_r ps[n] m v
          rw [h3] at this
          rw [← this]
        rw [List.getElem?_set_self hn, ← this]
      · rename_i h3
        rw [if_neg h3]
        split at h
        · rename_i h4
          rw [if_pos h4]
          obtain ⟨a, L, e1, e2, e3, e4⟩ := alloc_what h4
          have hna : n ≠ a := e4 n hn (by omega)
          have hLn := e3 n hn hna
          have hnL : n < L.length := by
            rw [List.getElem?_eq_getElem hn] at hLn
            exact (List.getElem?_eq_some_iff.1 hLn).1
          have hLn2 : L[n] = ps[n] := by
            rw [List.getElem?_eq_getElem hn, List.getElem?_eq_getElem hnL] at hLn
            exact Option.some.inj hLn
          have hfr : freeL L n = L.set n { ps[n] with r := ps[n].r - 1 } := by
            unfold freeL
            rw [pgAt_get hnL, hLn2, if_neg (by omega)]
          refine ⟨n, m, a, freeL L n, rfl, rfl, hj, by rw [e1], hn, hr1, by rw [hfr]; simpa using hnL, ?_, ?_, fun _ => ?_, fun k hk h1 h2 => ?_⟩
          · rw [hfr, List.getElem?_set_ne hna, e2]
          · exact ⟨fun e => absurd e.symm hna, fun e => absurd e h3⟩
          · rw [hfr, List.getElem?_set_self hnL]
          · rw [hfr, List.getElem?_set_ne (Ne.symm h1), e3 k hk h2]
        · rename_i h4
          exact absurd h h4
    · cases h
  · rename_i h1
    exact absurd h h1
end Go.Proofs.Ytelfkopoppfaaaa
