/- The walk of PageBack. -/
import Derived.Test.YtelfkopoppfaaaaPgPlain
import Derived.Deep.RegionHeld3
namespace Go.Proofs.Ytelfkopoppfaaaa
open Go Go.RowKit

theorem share_back {cap : Int} {ps : List Pg} {p : Int} (hm : mayP cap ps = true) (h : (shareL cap ps p).1 = 0) :
    ∃ qs, shareL cap ps p = (0, qs) ∧ mayP cap qs = true ∧ freeX cap qs p = (0, ps) ∧ usedL cap qs = usedL cap ps ∧ qs.length ≤ 12 := by
  have hm2 := shareL_may hm p
  unfold shareL at *
  split at h
  · rename_i h1
    obtain ⟨_, k, rfl, hk, _, hr1, hr2⟩ := had_ok h1
    rw [if_pos h1] at hm2 ⊢
    split at h
    · cases h
    · rename_i h2
      rw [if_neg h2] at hm2 ⊢
      rw [Int.toNat_natCast] at *
      refine ⟨_, rfl, hm2, ?_, ?_, ?_⟩
      · have h3 : hadL cap (ps.set k { pgAt ps k with r := (pgAt ps k).r + 1 }) k = 0 := had_mk hm2 (by simpa using hk) (by simp; omega)
        have h4 : pgAt (ps.set k { pgAt ps k with r := (pgAt ps k).r + 1 }) k = { pgAt ps k with r := (pgAt ps k).r + 1 } := by rw [pgAt_get (by simpa using hk)]; simp
        rw [freeX, if_pos h3, Int.toNat_natCast, freeL, h4]
        rw [if_neg (by simp only; omega)]
        rw [List.set_set]
        have h5 : ({ pgAt ps k with r := (pgAt ps k).r + 1 - 1 } : Pg) = ps[k] := by
          rw [pgAt_get hk, show ps[k].r + 1 - 1 = ps[k].r from by omega]
        rw [h5, List.set_getElem_self]
      · rw [usedL, usedL, if_pos hm, if_pos hm2]
        have := usedN_set hk { pgAt ps k with r := (pgAt ps k).r + 1 }
        rw [if_neg (by rw [← pgAt_get hk]; omega), if_neg (by simp only; omega)] at this
        omega
      · have := (may_len hm)
        simp; omega
  · rename_i h1
    exact absurd h h1

theorem alloc_full_used {cap : Int} {ps : List Pg} (hm : mayP cap ps = true) (h : allocL cap ps ⟨0, 0, 0, 0, 0⟩ = (-1, 8, ps)) : usedL cap ps = cap := by
  unfold allocL at h
  split at h
  · rename_i h1
    split at h
    · rename_i h2
      rw [usedL, if_pos hm, usedN_all h1, h2]
    · simp at h
  · simp at h

theorem alloc_back {cap : Int} {ps : List Pg} (hm : mayP cap ps = true) (h : (allocL cap ps ⟨0, 0, 0, 0, 0⟩).2.1 = 0) :
    ∃ (j : Int) (qs rs : List Pg), allocL cap ps ⟨0, 0, 0, 0, 0⟩ = (j, 0, qs) ∧ mayP cap qs = true ∧ freeX cap qs j = (0, rs) ∧ mayP cap rs = true ∧ usedL cap qs = usedL cap ps + 1 ∧ usedL cap rs = usedL cap ps := by
  have hm2 := allocL_may hm ⟨0, 0, 0, 0, 0⟩
  have hzero : ∀ (qs : List Pg) (j : Nat), mayP cap qs = true → (hj : j < qs.length) → qs[j] = ⟨1, 0, 0, 0, 0⟩ → freeX cap qs j = (0, qs.set j ⟨0, 0, 0, 0, 0⟩) := by
    intro qs j hq hj h1
    have h3 : hadL cap qs j = 0 := had_mk hq hj (by rw [h1]; simp)
    rw [freeX, if_pos h3, Int.toNat_natCast, freeL, pgAt_get hj, h1]
    rfl
  unfold allocL at *
  rcases idxF_range freeP ps with h1 | ⟨j, hj, h1⟩
  · rw [if_pos h1] at h hm2 ⊢
    by_cases h2 : (ps.length : Int) = cap
    · rw [if_pos h2] at h
      cases h
    · rw [if_neg h2] at h hm2 ⊢
      refine ⟨_, _, _, rfl, hm2, hzero _ _ hm2 (by simp) (by simp), ?_, ?_, ?_⟩
      · exact may_set hm2 _ (by decide)
      · rw [usedL, usedL, if_pos hm, if_pos hm2, usedN_snoc]
        simp
      · rw [usedL, usedL, if_pos hm, if_pos (may_set hm2 _ (by decide))]
        have := usedN_set (ps := ps ++ [({ r := 1, a := 0, b := 0, c := 0, d := 0 } : Pg)]) (k := ps.length) (by simp) ⟨0, 0, 0, 0, 0⟩
        rw [usedN_snoc] at this
        simp at this ⊢
        omega
  · rw [if_neg (by omega)] at h hm2 ⊢
    rw [h1] at h hm2 ⊢
    rw [Int.toNat_natCast] at *
    obtain ⟨_, hp, _⟩ := idxF_spec freeP ps j h1
    have hr : ps[j].r = 0 := by simpa [freeP] using hp
    refine ⟨_, _, _, rfl, hm2, hzero _ _ hm2 (by simpa using hj) (by simp), ?_, ?_, ?_⟩
    · exact may_set hm2 _ (by decide)
    · rw [usedL, usedL, if_pos hm, if_pos hm2]
      have := usedN_set hj ⟨1, 0, 0, 0, 0⟩
      rw [hr] at this
      simp at this ⊢
      omega
    · rw [usedL, usedL, if_pos hm, if_pos (may_set hm2 _ (by decide)), List.set_set]
      have := usedN_set hj ⟨0, 0, 0, 0, 0⟩
      rw [hr] at this
      simp at this ⊢
      omega

end Go.Proofs.Ytelfkopoppfaaaa
