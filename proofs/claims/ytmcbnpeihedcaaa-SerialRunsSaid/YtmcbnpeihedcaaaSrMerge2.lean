/- Lists: two rising parts merged. Plain. -/
import Derived.Test.YtmcbnpeihedcaaaSrMerge
namespace Go.Proofs.Ytmcbnpeihedcaaa
set_option linter.unusedSimpArgs false
set_option linter.unusedVariables false

section
variable {α : Type} {key : α → Int}

theorem mrg1 {l m' : List α} {a b i : Nat} (h : MvU key l m' a (i - 1)) (h1 : a + 1 ≤ i) (h2 : i ≤ b) (hb : b ≤ l.length) (hs : Srt key l (a + 1) b) (hlo : i = a + 1 ∨ kAt key l (i - 1) < kAt key l a) (hhi : i = b ∨ ¬ kAt key l i < kAt key l a) :
    Srt key m' a b ∧ Out l m' a b ∧ Stab key l m' := by
  obtain ⟨h3, h4, h5⟩ := h
  rw [srt_iff hb] at hs
  have hk : ∀ p, kAt key m' p = if a ≤ p ∧ p < i - 1 then kAt key l (p + 1) else if p = i - 1 then kAt key l a else kAt key l p := fun p => by
    have := h5 p
    by_cases c1 : a ≤ p ∧ p < i - 1
    · rw [if_pos c1] at this ⊢; exact kAt_eq this
    · rw [if_neg c1] at this ⊢
      by_cases c2 : p = i - 1
      · rw [if_pos c2] at this ⊢; exact kAt_eq this
      · rw [if_neg c2] at this ⊢; exact kAt_eq this
  refine ⟨?_, fun p hp => by rw [h5 p, if_neg (by omega), if_neg (by omega)], h3⟩
  rw [srt_iff (by omega)]
  intro p q hp hpq hq
  have hx : ∀ c, a + 1 ≤ c → c < i → kAt key l c < kAt key l a := fun c c1 c2 => by
    by_cases e : c = i - 1
    · subst e
      rcases hlo with h | h
      · omega
      · exact h
    · have := hs c (i - 1) c1 (by omega) (by omega)
      rcases hlo with h | h <;> omega
  have hy : ∀ c, i ≤ c → c < b → kAt key l a ≤ kAt key l c := fun c c1 c2 => by
    by_cases e : c = i
    · subst e
      rcases hhi with h | h <;> omega
    · have := hs i c (by omega) (by omega) c2
      rcases hhi with h | h <;> omega
  rw [hk p, hk q]
  by_cases p1 : a ≤ p ∧ p < i - 1
  · rw [if_pos p1]
    by_cases q1 : a ≤ q ∧ q < i - 1
    · rw [if_pos q1]; exact hs (p + 1) (q + 1) (by omega) (by omega) (by omega)
    · rw [if_neg q1]
      by_cases q2 : q = i - 1
      · rw [if_pos q2]; exact Int.le_of_lt (hx (p + 1) (by omega) (by omega))
      · rw [if_neg q2]; exact hs (p + 1) q (by omega) (by omega) hq
  · rw [if_neg p1]
    by_cases p2 : p = i - 1
    · rw [if_pos p2, if_neg (by omega), if_neg (by omega)]
      exact hy q (by omega) hq
    · rw [if_neg p2, if_neg (by omega), if_neg (by omega)]
      exact hs p q (by omega) hpq hq

theorem mrg2 {l m' : List α} {a m i : Nat} (h : MvD key l m' m i) (h1 : a ≤ i) (h2 : i ≤ m) (hb : m < l.length) (hs : Srt key l a m) (hlo : i = a ∨ ¬ kAt key l m < kAt key l (i - 1)) (hhi : i = m ∨ kAt key l m < kAt key l i) :
    Srt key m' a (m + 1) ∧ Out l m' a (m + 1) ∧ Stab key l m' := by
  obtain ⟨h3, h4, h5⟩ := h
  rw [srt_iff (by omega)] at hs
  have hk : ∀ p, kAt key m' p = if i < p ∧ p ≤ m then kAt key l (p - 1) else if p = i then kAt key l m else kAt key l p := fun p => by
    have := h5 p
    by_cases c1 : i < p ∧ p ≤ m
    · rw [if_pos c1] at this ⊢; exact kAt_eq this
    · rw [if_neg c1] at this ⊢
      by_cases c2 : p = i
      · rw [if_pos c2] at this ⊢; exact kAt_eq this
      · rw [if_neg c2] at this ⊢; exact kAt_eq this
  refine ⟨?_, fun p hp => by rw [h5 p, if_neg (by omega), if_neg (by omega)], h3⟩
  rw [srt_iff (by omega)]
  intro p q hp hpq hq
  have hx : ∀ c, a ≤ c → c < i → kAt key l c ≤ kAt key l m := fun c c1 c2 => by
    by_cases e : c = i - 1
    · subst e
      rcases hlo with h | h <;> omega
    · have := hs c (i - 1) c1 (by omega) (by omega)
      rcases hlo with h | h <;> omega
  have hy : ∀ c, i ≤ c → c < m → kAt key l m < kAt key l c := fun c c1 c2 => by
    by_cases e : c = i
    · subst e
      rcases hhi with h | h <;> omega
    · have := hs i c (by omega) (by omega) c2
      rcases hhi with h | h <;> omega
  rw [hk p, hk q]
  by_cases q1 : i < q ∧ q ≤ m
  · rw [if_pos q1]
    by_cases p1 : i < p ∧ p ≤ m
    · rw [if_pos p1]; exact hs (p - 1) (q - 1) (by omega) (by omega) (by omega)
    · rw [if_neg p1]
      by_cases p2 : p = i
      · rw [if_pos p2]; exact Int.le_of_lt (hy (q - 1) (by omega) (by omega))
      · rw [if_neg p2]
        by_cases e : p = q - 1
        · rw [← e]; exact Int.le_refl _
        · exact hs p (q - 1) (by omega) (by omega) (by omega)
  · rw [if_neg q1, if_neg (by omega), if_neg (by omega)]
    by_cases q2 : q = i
    · rw [if_pos q2]; exact hx p hp (by omega)
    · rw [if_neg q2]; exact hs p q hp hpq (by omega)

/-- What the search for the place to part at comes to: s, and the other end e. -/
structure Cutp (key : α → Int) (l : List α) (a m b mid s e : Nat) : Prop where
  as : a ≤ s
  sm : s ≤ m
  me : m ≤ e
  eb : e ≤ b
  smid : s ≤ mid
  mide : mid ≤ e
  sum : s + e = mid + m
  lo : s = a ∨ e = b ∨ kAt key l (s - 1) ≤ kAt key l e
  hi : s = m ∨ e = m ∨ kAt key l (e - 1) < kAt key l s

theorem Cutp.lt {l : List α} {a m b mid s e : Nat} (h : Cutp key l a m b mid s e) (hb : b ≤ l.length) (h1 : Srt key l a m) (h2 : Srt key l m b) : ∀ i j, s ≤ i → i < m → m ≤ j → j < e → kAt key l j < kAt key l i := by
  rw [srt_iff (by have := h.me; have := h.eb; omega)] at h1
  rw [srt_iff hb] at h2
  intro i j i1 i2 j1 j2
  have ha := h.as
  have heb := h.eb
  rcases h.hi with c | c | c
  · omega
  · omega
  · have x1 : kAt key l s ≤ kAt key l i := by
      by_cases e : s = i
      · rw [e]; exact Int.le_refl _
      · exact h1 s i ha (by omega) i2
    have x2 : kAt key l j ≤ kAt key l (e - 1) := by
      by_cases e' : j = e - 1
      · rw [← e']; exact Int.le_refl _
      · exact h2 j (e - 1) j1 (by omega) (by omega)
    omega

/-- The two halves behind the parts' turning round. -/
theorem Cutp.halves {l l1 : List α} {a m b mid s e : Nat} (h : Cutp key l a m b mid s e) (hb : b ≤ l.length) (h1 : Srt key l a m) (h2 : Srt key l m b) (hr : RotL l l1 s m e) :
    Srt key l1 a s ∧ Srt key l1 s mid ∧ Srt key l1 mid e ∧ Srt key l1 e b ∧ (∀ p q, a ≤ p → p < mid → mid ≤ q → q < b → kAt key l1 p ≤ kAt key l1 q) ∧ Out l l1 a b ∧ Stab key l l1 := by
  have hlt := h.lt hb h1 h2
  have hl := hr.1
  rw [srt_iff (by have := h.me; have := h.eb; omega)] at h1
  rw [srt_iff hb] at h2
  obtain ⟨as, sm, me, eb, smid, mide, sum, lo, hi⟩ := h
  have hk : ∀ k, kAt key l1 k = if s ≤ k ∧ k < e then (if k < s + (e - m) then kAt key l (k + (m - s)) else kAt key l (k - (e - m))) else kAt key l k := fun k => by
    have := hr.2 k
    by_cases c1 : s ≤ k ∧ k < e
    · rw [if_pos c1] at this ⊢
      by_cases c2 : k < s + (e - m)
      · rw [if_pos c2] at this ⊢; exact kAt_eq this
      · rw [if_neg c2] at this ⊢; exact kAt_eq this
    · rw [if_neg c1] at this ⊢; exact kAt_eq this
  have kA : ∀ k, k < s → kAt key l1 k = kAt key l k := fun k c => by rw [hk, if_neg (by omega)]
  have kB : ∀ k, s ≤ k → k < mid → kAt key l1 k = kAt key l (k + (m - s)) := fun k c d => by rw [hk, if_pos (by omega), if_pos (by omega)]
  have kC : ∀ k, mid ≤ k → k < e → kAt key l1 k = kAt key l (k - (e - m)) := fun k c d => by rw [hk, if_pos (by omega), if_neg (by omega)]
  have kD : ∀ k, e ≤ k → kAt key l1 k = kAt key l k := fun k c => by rw [hk, if_neg (by omega)]
  refine ⟨?_, ?_, ?_, ?_, ?_, fun p hp => by rw [hr.2 p, if_neg (by omega)], Stab.rot hr sm me (by omega) fun i j i1 i2 j1 j2 => by have := hlt i j i1 i2 j1 j2; omega⟩
  · rw [srt_iff (by omega)]
    intro p q c1 c2 c3
    rw [kA p (by omega), kA q c3]
    exact h1 p q c1 c2 (by omega)
  · rw [srt_iff (by omega)]
    intro p q c1 c2 c3
    rw [kB p c1 (by omega), kB q (by omega) c3]
    exact h2 _ _ (by omega) (by omega) (by omega)
  · rw [srt_iff (by omega)]
    intro p q c1 c2 c3
    rw [kC p c1 (by omega), kC q (by omega) c3]
    exact h1 _ _ (by omega) (by omega) (by omega)
  · rw [srt_iff (by omega)]
    intro p q c1 c2 c3
    rw [kD p c1, kD q (by omega)]
    exact h2 p q (by omega) c2 c3
  · intro p q c1 c2 c3 c4
    have low : ∀ i j, a ≤ i → i < s → e ≤ j → j < b → kAt key l i ≤ kAt key l j := by
      intro i j i1 i2 j1 j2
      rcases lo with c | c | c
      · omega
      · omega
      · have x1 : kAt key l i ≤ kAt key l (s - 1) := by
          by_cases e' : i = s - 1
          · rw [← e']; exact Int.le_refl _
          · exact h1 i (s - 1) i1 (by omega) (by omega)
        have x2 : kAt key l e ≤ kAt key l j := by
          by_cases e' : e = j
          · rw [e']; exact Int.le_refl _
          · exact h2 e j (by omega) (by omega) j2
        omega
    by_cases p1 : p < s
    · rw [kA p p1]
      by_cases q1 : q < e
      · rw [kC q c3 q1]; exact h1 _ _ c1 (by omega) (by omega)
      · rw [kD q (by omega)]; exact low p q c1 p1 (by omega) c4
    · rw [kB p (by omega) c2]
      by_cases q1 : q < e
      · rw [kC q c3 q1]; exact Int.le_of_lt (hlt _ _ (by omega) (by omega) (by omega) (by omega))
      · rw [kD q (by omega)]; exact h2 _ _ (by omega) (by omega) c4

/-- Nothing need be turned round. -/
theorem RotL.none (l : List α) {p m q : Nat} (h : p = m ∨ m = q) (h1 : p ≤ m) (h2 : m ≤ q) : RotL l l p m q := by
  refine ⟨rfl, fun k => ?_⟩
  repeat' split
  all_goals first | rfl | (exfalso; omega) | (congr 1; omega)

/-- Both halves rise: so does all of it. -/
theorem merge_end {l1 l3 : List α} {a mid b : Nat} (hb : b ≤ l1.length) (hm1 : a ≤ mid) (hm2 : mid ≤ b) (hx : ∀ p q, a ≤ p → p < mid → mid ≤ q → q < b → kAt key l1 p ≤ kAt key l1 q)
    {l2 : List α} (s1 : Srt key l2 a mid) (o1 : Out l1 l2 a mid) (t1 : Stab key l1 l2) (s2 : Srt key l3 mid b) (o2 : Out l2 l3 mid b) (t2 : Stab key l2 l3) : Srt key l3 a b := by
  have hl2 := t1.len
  have hl3 := t2.len
  rw [srt_iff (by omega)] at s1 s2 ⊢
  intro p q c1 c2 c3
  by_cases p1 : p < mid
  · have ep : kAt key l3 p = kAt key l2 p := kAt_eq (o2 p (.inl p1))
    by_cases q1 : q < mid
    · rw [ep, kAt_eq (o2 q (.inl q1))]
      exact s1 p q c1 c2 q1
    · obtain ⟨p', a1, a2, a3⟩ := from_of t1 o1 (by omega) hm1 p c1 p1
      obtain ⟨q', b1, b2, b3⟩ := from_of t2 o2 (by omega) hm2 q (by omega) c3
      rw [ep, a3, b3, kAt_eq (o1 q' (.inr b1))]
      exact hx p' q' a1 a2 b1 b2
  · exact s2 p q (by omega) c2 c3
end
end Go.Proofs.Ytmcbnpeihedcaaa
