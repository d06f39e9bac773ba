/- What the exported functions of layer 16 come to, as lists: what may be stays so; what an error changes; how many are had. -/
import Derived.Test.YtoogobenjhmjjaaTbAwake
namespace Go.Proofs.Ytoogobenjhmjjaa
open Go Go.RowKit

theorem may_mk {cap : Int} {ps : List Pg} (h0 : 0 ≤ cap) (h1 : cap ≤ 12) (h2 : (ps.length : Int) ≤ cap) (h3 : ∀ p ∈ ps, oddP p = false) : mayP cap ps = true := by
  have : ps.any oddP = false := by
    rw [List.any_eq_false]
    intro x hx
    simp [h3 x hx]
  simp [mayP, h0, h1, h2, this]

theorem may_mem {cap : Int} {ps : List Pg} (h : mayP cap ps = true) : ∀ p ∈ ps, oddP p = false := by
  intro p hp
  obtain ⟨k, hk, rfl⟩ := List.getElem_of_mem hp
  exact may_odd h k hk

theorem may_set {cap : Int} {ps : List Pg} (h : mayP cap ps = true) (k : Nat) {x : Pg} (hx : oddP x = false) : mayP cap (ps.set k x) = true := by
  obtain ⟨h0, h1, h2⟩ := may_len h
  refine may_mk h0 h1 (by simpa using h2) fun p hp => ?_
  rcases List.mem_or_eq_of_mem_set hp with hp | rfl
  · exact may_mem h p hp
  · exact hx

theorem may_app {cap : Int} {ps : List Pg} (h : mayP cap ps = true) (hl : (ps.length : Int) < cap) {x : Pg} (hx : oddP x = false) : mayP cap (ps ++ [x]) = true := by
  obtain ⟨h0, h1, h2⟩ := may_len h
  refine may_mk h0 h1 (by simp; omega) fun p hp => ?_
  rcases List.mem_append.1 hp with hp | hp
  · exact may_mem h p hp
  · simp at hp; subst hp; exact hx

theorem odd_of {p : Pg} (h1 : 1 ≤ p.r) (h2 : p.r ≤ 1000) : oddP p = false := by
  have a : ¬ p.r < 0 := by omega
  have b : ¬ 1000 < p.r := by omega
  have c : ¬ p.r = 0 := by omega
  simp [oddP, a, b, c]

theorem odd_zero {p : Pg} (h : oddP p = false) (hr : p.r = 0) : p = ⟨0, 0, 0, 0, 0⟩ := by
  obtain ⟨r, a, b, c, d⟩ := p
  simp only at hr
  subst hr
  simp [oddP, pgEq] at h
  obtain ⟨rfl, rfl, rfl, rfl⟩ := h
  rfl

theorem pgAt_get {ps : List Pg} {k : Nat} (hk : k < ps.length) : pgAt ps k = ps[k] := by simp [pgAt, hk]

theorem had_mk {cap : Int} {ps : List Pg} (hm : mayP cap ps = true) {k : Nat} (hk : k < ps.length) (hr : ps[k].r ≠ 0) : hadL cap ps k = 0 := by
  have h1 : ¬ (k : Int) < 0 := by omega
  have h2 : ¬ (ps.length : Int) ≤ k := by omega
  simp [hadL, hm, pgAt_get hk, hr, hk]

/-! ### Alloc -/
theorem allocL_may {cap : Int} {ps : List Pg} (hm : mayP cap ps = true) (x : Pg) : mayP cap (allocL cap ps x).2.2 = true := by
  unfold allocL
  rcases idxF_range freeP ps with h | ⟨j, hj, h⟩
  · rw [if_pos h]
    by_cases h2 : (ps.length : Int) = cap
    · rw [if_pos h2]; exact hm
    · rw [if_neg h2]
      exact may_app hm (by have := (may_len hm).2.2; omega) (odd_of (by simp) (by simp))
  · rw [if_neg (by omega)]
    exact may_set hm _ (odd_of (by simp) (by simp))

theorem allocL_err {cap : Int} {ps : List Pg} {x : Pg} (h : (allocL cap ps x).2.1 ≠ 0) : (allocL cap ps x) = (-1, 8, ps) := by
  unfold allocL at *
  split at h
  · split at h
    · rename_i h1 h2
      rw [if_pos h1, if_pos h2]
    · simp at h
  · simp at h

theorem allocX_may {cap : Int} {ps : List Pg} (hm : mayP cap ps = true) : mayP cap (allocX cap ps).2.2 = true := by
  rw [allocX, if_pos hm]; exact allocL_may hm _
theorem allocX_err {cap : Int} {ps : List Pg} (hm : mayP cap ps = true) (h : (allocX cap ps).2.1 ≠ 0) : (allocX cap ps).2.2 = ps := by
  rw [allocX, if_pos hm] at *; rw [allocL_err h]

/-! ### Share, Free -/
theorem shareL_may {cap : Int} {ps : List Pg} (hm : mayP cap ps = true) (p : Int) : mayP cap (shareL cap ps p).2 = true := by
  unfold shareL
  split
  · rename_i h
    obtain ⟨_, k, rfl, hk, _, h1, h2⟩ := had_ok h
    split
    · exact hm
    · exact may_set hm _ (odd_of (by simp; omega) (by simp; omega))
  · exact hm
theorem shareL_err {cap : Int} {ps : List Pg} {p : Int} (h : (shareL cap ps p).1 ≠ 0) : (shareL cap ps p).2 = ps := by
  unfold shareL at *
  split
  · rename_i h1
    rw [if_pos h1] at h
    split
    · rfl
    · rename_i h2
      rw [if_neg h2] at h
      exact absurd rfl h
  · rfl

theorem freeL_may {cap : Int} {ps : List Pg} (hm : mayP cap ps = true) {k : Nat} (h1 : 1 ≤ (pgAt ps k).r) (h2 : (pgAt ps k).r ≤ 1000) : mayP cap (freeL ps k) = true := by
  unfold freeL
  split
  · exact may_set hm _ (by decide)
  · exact may_set hm _ (odd_of (by simp; omega) (by simp; omega))

theorem freeX_may {cap : Int} {ps : List Pg} (hm : mayP cap ps = true) (p : Int) : mayP cap (freeX cap ps p).2 = true := by
  unfold freeX
  split
  · rename_i h
    obtain ⟨_, k, rfl, hk, _, h1, h2⟩ := had_ok h
    rw [Int.toNat_natCast]
    exact freeL_may hm h1 h2
  · exact hm
theorem freeX_err {cap : Int} {ps : List Pg} {p : Int} (h : (freeX cap ps p).1 ≠ 0) : (freeX cap ps p).2 = ps := by
  unfold freeX at *
  split
  · rename_i h1
    rw [if_pos h1] at h
    exact absurd rfl h
  · rfl

/-! ### Write -/
theorem wset_r (x : Pg) (i v : Int) : (wset x i v).r = x.r := by
  unfold wset
  split
  · rfl
  · split
    · rfl
    · split <;> rfl

theorem writeL_may {cap : Int} {ps : List Pg} (hm : mayP cap ps = true) (p i v : Int) : mayP cap (writeL cap ps p i v).2.2 = true := by
  unfold writeL
  split
  · rename_i h
    obtain ⟨_, k, rfl, hk, _, h1, h2⟩ := had_ok h
    split
    · split
      · rename_i h3
        exact may_set hm _ (odd_of (by rw [wset_r]; omega) (by rw [wset_r]; omega))
      · split
        · rw [Int.toNat_natCast]
          obtain ⟨k1, k2⟩ := alloc_keep cap ps (wset (pgAt ps k) i v) k hk (by omega)
          exact freeL_may (allocL_may hm _) (by rw [k2]; omega) (by rw [k2]; omega)
        · exact allocL_may hm _
    · exact hm
  · exact hm
theorem writeL_err {cap : Int} {ps : List Pg} {p i v : Int} (h : (writeL cap ps p i v).2.1 ≠ 0) : (writeL cap ps p i v).1 = -1 ∧ (writeL cap ps p i v).2.2 = ps := by
  unfold writeL at *
  split
  · rename_i h1
    rw [if_pos h1] at h
    split
    · rename_i h2
      rw [if_pos h2] at h
      split
      · rename_i h3
        rw [if_pos h3] at h
        exact absurd rfl h
      · rename_i h3
        rw [if_neg h3] at h
        split
        · rename_i h4
          rw [if_pos h4] at h
          exact absurd rfl h
        · rename_i h4
          rw [allocL_err h4]
          exact ⟨rfl, rfl⟩
    · exact ⟨rfl, rfl⟩
  · exact ⟨rfl, rfl⟩

/-! ### How many are had -/
theorem usedN_set {ps : List Pg} {k : Nat} (hk : k < ps.length) (x : Pg) : usedN (ps.set k x) + (if ps[k].r = 0 then 0 else 1) = usedN ps + (if x.r = 0 then 0 else 1) := by
  induction ps generalizing k with
  | nil => simp at hk
  | cons y ps ih =>
    have hc : ∀ (z : Pg) (l : List Pg), usedN (z :: l) = (if z.r = 0 then 0 else 1) + usedN l := by
      intro z l
      unfold usedN
      by_cases h : z.r = 0 <;> simp [freeP, h]
      omega
    match k with
    | 0 =>
      rw [List.set_cons_zero, hc, hc]
      simp only [List.getElem_cons_zero]
      omega
    | k + 1 =>
      rw [List.set_cons_succ, hc, hc]
      have := ih (by simpa using hk)
      simp only [List.getElem_cons_succ]
      omega

theorem usedN_all {ps : List Pg} (h : idxF freeP ps = -1) : usedN ps = ps.length := by
  have hall : ¬ ps.findIdx freeP < ps.length := by
    intro hh
    unfold idxF at h
    rw [if_pos hh] at h
    omega
  unfold usedN
  rw [List.filter_eq_self.2]
  intro x hx
  cases hc : freeP x with
  | false => rfl
  | true => exact absurd (List.findIdx_lt_length.2 ⟨_, hx, hc⟩) hall

theorem alloc_what {cap : Int} {ps : List Pg} {x : Pg} (h : (allocL cap ps x).2.1 = 0) :
    ∃ (a : Nat) (L : List Pg), allocL cap ps x = ((a : Int), 0, L) ∧ L[a]? = some { x with r := 1 } ∧ (∀ k, k < ps.length → k ≠ a → L[k]? = ps[k]?) ∧ (∀ k (hk : k < ps.length), ps[k].r ≠ 0 → k ≠ a) := by
  unfold allocL at h ⊢
  rcases idxF_range freeP ps with h5 | ⟨m, hm5, h5⟩
  · rw [if_pos h5] at h ⊢
    by_cases h6 : (ps.length : Int) = cap
    · rw [if_pos h6] at h; cases h
    · rw [if_neg h6]
      exact ⟨ps.length, _, rfl, by simp, fun k hk _ => by rw [List.getElem?_append_left hk], fun k hk _ => by omega⟩
  · rw [if_neg (by omega)]
    obtain ⟨_, hp, _⟩ := idxF_spec freeP ps m h5
    rw [h5, Int.toNat_natCast]
    refine ⟨m, _, rfl, by simp [hm5], fun k hk hne => by rw [List.getElem?_set_ne (Ne.symm hne)], ?_⟩
    rintro k hk hr rfl
    have : ps[k].r = 0 := by simpa [freeP] using hp
    exact hr this

/-- A write that is done, place by place. -/
theorem write_what {cap : Int} {ps : List Pg} {p i v : Int} (h : (writeL cap ps p i v).2.1 = 0) :
    ∃ (n m a : Nat) (qs : List Pg), p = n ∧ i = m ∧ m < 4 ∧ writeL cap ps p i v = ((a : Int), 0, qs) ∧ ∃ hn : n < ps.length, 1 ≤ ps[n].r ∧ n < qs.length ∧
      qs[a]? = some { wset ps[n] m v with r := 1 } ∧ (a = n ↔ ps[n].r = 1) ∧ (a ≠ n → qs[n]? = some { ps[n] with r := ps[n].r - 1 }) ∧ (∀ k, k < ps.length → k ≠ n → k ≠ a → qs[k]? = ps[k]?) := by
  unfold writeL at *
  split at h
  · rename_i h1
    obtain ⟨_, n, rfl, hn, _, hr1, hr2⟩ := had_ok h1
    rw [if_pos h1]
    split at h
    · rename_i h2
      rw [if_pos h2]
      obtain ⟨m, rfl⟩ := Int.eq_ofNat_of_zero_le h2.1
      have hj : m < 4 := by omega
      rw [pgAt_get hn] at *
      rw [Int.toNat_natCast] at *
      split at h
      · rename_i h3
        rw [if_pos h3]
        refine ⟨n, m, n, _, rfl, rfl, hj, rfl, hn, hr1, by simpa using hn, ?_, by simp [h3], fun h => absurd rfl h, fun k hk h1 _ => by rw [List.getElem?_set_ne (Ne.symm h1)]⟩
        have : wset ps[n] (m : Int) v = { wset ps[n] m v with r := 1 } := by
          have := wset_r ps[n] m v
          rw [h3] at this
          rw [← this]
        rw [List.getElem?_set_self hn, ← this]
      · rename_i h3
        rw [if_neg h3]
        split at h
        · rename_i h4
          rw [if_pos h4]
          obtain ⟨a, L, e1, e2, e3, e4⟩ := alloc_what h4
          have hna : n ≠ a := e4 n hn (by omega)
          have hLn := e3 n hn hna
          have hnL : n < L.length := by
            rw [List.getElem?_eq_getElem hn] at hLn
            exact (List.getElem?_eq_some_iff.1 hLn).1
          have hLn2 : L[n] = ps[n] := by
            rw [List.getElem?_eq_getElem hn, List.getElem?_eq_getElem hnL] at hLn
            exact Option.some.inj hLn
          have hfr : freeL L n = L.set n { ps[n] with r := ps[n].r - 1 } := by
            unfold freeL
            rw [pgAt_get hnL, hLn2, if_neg (by omega)]
          refine ⟨n, m, a, freeL L n, rfl, rfl, hj, by rw [e1], hn, hr1, by rw [hfr]; simpa using hnL, ?_, ?_, fun _ => ?_, fun k hk h1 h2 => ?_⟩
          · rw [hfr, List.getElem?_set_ne hna, e2]
          · exact ⟨fun e => absurd e.symm hna, fun e => absurd e h3⟩
          · rw [hfr, List.getElem?_set_self hnL]
          · rw [hfr, List.getElem?_set_ne (Ne.symm h1), e3 k hk h2]
        · rename_i h4
          exact absurd h h4
    · cases h
  · rename_i h1
    exact absurd h h1
end Go.Proofs.Ytoogobenjhmjjaa
