/- May a heap be? Plain words. -/
import Derived.Test.YtoogobenjhmjjaaTbEqt
import Derived.Test.YtoogobenjhmjjaaTbPages
namespace Go.Proofs.Ytoogobenjhmjjaa
open Go Go.RowKit
set_option linter.unusedVariables false

/-- How often each of n pages stands in xs. -/
def cnts (n : Nat) (xs : List Int) : List Int := (List.range n).map fun (p : Nat) => ((xs.count (p : Int) : Nat) : Int)
theorem cnts_len (n : Nat) (xs : List Int) : (cnts n xs).length = n := by simp [cnts]
theorem cnts_at (n : Nat) (xs : List Int) (p : Nat) (hp : p < n) : (cnts n xs)[p]'(by rw [cnts_len]; exact hp) = ((xs.count (p : Int) : Nat) : Int) := by simp [cnts]
theorem cnts_nil (n : Nat) : cnts n [] = List.replicate n 0 := by
  apply List.ext_getElem
  · simp [cnts]
  · intro i h1 h2; simp [cnts]
theorem cnts_snoc (n : Nat) (xs : List Int) (p : Nat) (hp : p < n) : cnts n (xs ++ [(p : Int)]) = (cnts n xs).set p (((xs.count (p : Int) : Nat) : Int) + 1) := by
  apply List.ext_getElem
  · simp [cnts]
  · intro i h1 h2
    simp only [cnts, List.getElem_map, List.getElem_range, List.getElem_set, List.count_append]
    by_cases e : p = i
    · subst e; simp
    · rw [if_neg e]
      have : ¬ ((p : Int) = (i : Int)) := by omega
      simp [this]
theorem cnts_congr {n : Nat} {xs ys : List Int} (h : ∀ p : Nat, p < n → xs.count (p : Int) = ys.count (p : Int)) : cnts n xs = cnts n ys := by
  unfold cnts
  apply List.map_congr_left
  intro p hp
  rw [List.mem_range] at hp
  rw [h p hp]

/-- Is a place's page none, or one of n? -/
def okPl (n : Nat) (p : Int) : Bool := p == -1 || (decide (0 ≤ p) && decide (p < n))
/-- May a table of a store of n pages be? -/
def okTb (n : Nat) (t : List Int) : Bool := (t.length == 0 || t.length == 4) && t.all (okPl n)
def mayH (cap : Int) (ps : List Pg) (ts : List (List Int)) : Bool :=
  mayP cap ps && (decide (ts.length ≤ 5) && (ts.all (okTb ps.length) && eqR isRefs (cnts ps.length ts.flatten) ps))

theorem prsK_succ (t : List Int) (k : Nat) : prsK t (k + 1) = if t.getD k 0 = -1 then prsK t k else prsK t k ++ [(k, t.getD k 0)] := rfl
theorem prsK_count (t : List Int) (p : Nat) : ∀ k, k ≤ t.length → ((prsK t k).map (·.2)).count (p : Int) = (t.take k).count (p : Int)
  | 0, _ => by simp [prsK]
  | k + 1, h => by
    have ih := prsK_count t p k (by omega)
    have e : t.take (k + 1) = t.take k ++ [t.getD k 0] := by
      rw [List.take_succ_eq_append_getElem (by omega), List.getD_eq_getElem?_getD, List.getElem?_eq_getElem (by omega)]; rfl
    rw [e, List.count_append, ← ih]
    rw [prsK_succ]
    split
    · rename_i h2
      rw [h2]
      have : ¬ ((-1 : Int) = (p : Int)) := by omega
      simp [this]
    · rw [List.map_append, List.count_append]; rfl
theorem prs_count (t : List Int) (p : Nat) : ((prs t).map (·.2)).count (p : Int) = t.count (p : Int) := by
  unfold prs
  rw [prsK_count t p _ (Nat.le_refl _), List.take_length]
theorem prsK_mem (t : List Int) : ∀ k, k ≤ t.length → ∀ x ∈ prsK t k, x.1 < t.length ∧ t.getD x.1 0 = x.2 ∧ x.2 ≠ -1
  | 0, _ => by simp [prsK]
  | k + 1, h => by
    intro x hx
    rw [prsK_succ] at hx
    split at hx
    · exact prsK_mem t k (by omega) x hx
    · rename_i h2
      rw [List.mem_append] at hx
      rcases hx with hx | hx
      · exact prsK_mem t k (by omega) x hx
      · simp at hx
        subst hx
        exact ⟨by omega, rfl, h2⟩
theorem prsK_all (t : List Int) (q : Int → Bool) : ∀ k, k ≤ t.length → (∀ x ∈ prsK t k, q x.2 = true) → ∀ j, j < k → t.getD j 0 ≠ -1 → q (t.getD j 0) = true
  | 0, _, _ => fun j hj => absurd hj (Nat.not_lt_zero _)
  | k + 1, h, hq => by
    intro j hj hne
    rw [prsK_succ] at hq
    by_cases e : j = k
    · subst e
      rw [if_neg hne] at hq
      exact hq (j, t.getD j 0) (List.mem_append.2 (.inr (List.mem_singleton.2 rfl)))
    · refine prsK_all t q k (by omega) (fun x hx => hq x ?_) j (by omega) hne
      split
      · exact hx
      · exact List.mem_append.2 (.inl hx)
theorem okTb_of (n : Nat) (t : List Int) (hl : t.length = 0 ∨ t.length = 4) (h : ∀ x ∈ prs t, 0 ≤ x.2 ∧ x.2 < n) : okTb n t = true := by
  unfold okTb
  rw [Bool.and_eq_true]
  refine ⟨by rcases hl with h | h <;> simp [h], ?_⟩
  rw [List.all_eq_true]
  intro p hp
  obtain ⟨j, hj, rfl⟩ := List.getElem_of_mem hp
  unfold okPl
  by_cases e : t[j] = -1
  · simp [e]
  · have := prsK_all t (fun p => decide (0 ≤ p) && decide (p < n)) t.length (Nat.le_refl _) (fun x hx => by have := h x hx; simp [this.1, this.2]) j hj (by rw [List.getD_eq_getElem?_getD, List.getElem?_eq_getElem hj]; exact e)
    rw [List.getD_eq_getElem?_getD, List.getElem?_eq_getElem hj] at this
    rw [Bool.or_eq_true]
    exact .inr this
theorem okTb_bad (n : Nat) (t : List Int) (x : Nat × Int) (hx : x.1 < t.length ∧ t.getD x.1 0 = x.2 ∧ x.2 ≠ -1) (h : x.2 < 0 ∨ (n : Int) ≤ x.2) : okTb n t = false := by
  rw [Bool.eq_false_iff]
  intro ho
  unfold okTb at ho
  rw [Bool.and_eq_true, List.all_eq_true] at ho
  obtain ⟨h1, h2, h3⟩ := hx
  have hm : x.2 ∈ t := by rw [← h2, List.getD_eq_getElem?_getD, List.getElem?_eq_getElem h1]; exact List.getElem_mem h1
  have := ho.2 _ hm
  unfold okPl at this
  simp at this
  omega
theorem mayH_bad {cap : Int} {ps : List Pg} {ts : List (List Int)} {k : Nat} (hk : k < ts.length) (h : okTb ps.length ts[k] = false) : mayH cap ps ts = false := by
  rw [Bool.eq_false_iff]
  intro hm
  unfold mayH at hm
  simp only [Bool.and_eq_true, List.all_eq_true] at hm
  have := hm.2.2.1 _ (List.getElem_mem hk)
  rw [h] at this
  cases this
theorem okTb_len {n : Nat} {t : List Int} (h : okTb n t = true) : t.length = 0 ∨ t.length = 4 := by
  unfold okTb at h
  rw [Bool.and_eq_true] at h
  simpa using h.1
end Go.Proofs.Ytoogobenjhmjjaa
