/- Arguments opened: a slice that was read as data is a slice value that reads as a list. -/
import Derived.Test.YtngimbfojccikaaLawKit
import Derived.Deep.Slices
import Derived.Lib.SmallJoins
namespace Go.Proofs.Ytngimbfojccikaa
set_option linter.unusedSimpArgs false
open Go Go.ChangeShapes Go.WideShapes Go.ChangeAt Go.RowKit Go.Deep Go.Joins

theorem list_of {α : Type} {Q : Nat → α → Prop} : ∀ (n : Nat), (∀ i, i < n → ∃ a, Q i a) → ∃ xs : List α, xs.length = n ∧ ∀ i (h : i < xs.length), Q i xs[i]
  | 0, _ => ⟨[], rfl, fun i h => absurd h (by simp)⟩
  | n + 1, h => by
    obtain ⟨xs, hl, hx⟩ := list_of n fun i hi => h i (by omega)
    obtain ⟨a, ha⟩ := h n (by omega)
    refine ⟨xs ++ [a], by simp [hl], fun i hi => ?_⟩
    rcases Nat.lt_or_ge i xs.length with h1 | h1
    · rw [List.getElem_append_left h1]; exact hx i h1
    · have : i = n := by simp at hi; omega
      subst this
      rw [List.getElem_append_right h1]
      simpa [hl] using ha

theorem flat_at {α : Type} {k : Nat} (enc : α → List Value) (hk : ∀ x, (enc x).length = k) (xs : List α) (j : Nat) (u : Value) (hu : (xs.flatMap enc)[j]? = some u) :
    ∃ (i : Nat) (hi : i < xs.length) (r : Nat), j = i * k + r ∧ (enc xs[i])[r]? = some u := by
  induction xs generalizing j with
  | nil => simp at hu
  | cons x xs ih =>
    rw [List.flatMap_cons] at hu
    rcases Nat.lt_or_ge j k with h | h
    · rw [List.getElem?_append_left (by rw [hk]; exact h)] at hu
      exact ⟨0, by simp, j, by simp, by simpa using hu⟩
    · rw [List.getElem?_append_right (by rw [hk]; exact h), hk] at hu
      obtain ⟨i, hi, r, he, hr⟩ := ih _ hu
      exact ⟨i + 1, by simpa using hi, r, by rw [Nat.succ_mul]; omega, by simpa using hr⟩

section
variable {H : Type} {enc : TypeId × Value → H} {P : Program} {w : World} {base : Nat} {spare : Nat → Bool} {held : Bool}

theorem spot_of_cell {w : World} {a : Addr} {u : Value} (h : w.cell? a = some u) : a.spot = none ∧ a.block < w.heap.size := by
  refine ⟨?_, World.block_lt_of_cell? w a h⟩
  cases hs : a.spot with
  | none => rfl
  | some s =>
    unfold World.cell? at h
    split at h
    · simp [hs] at h
    · cases h

/-- A slice that was read as data: a list of elements, each with what its own reading tells. -/
theorem open_sl {α : Type} {k : Nat} (e' : α → List Value) (hk : ∀ x, (e' x).length = k) (hk0 : 0 < k) (Q : α → Prop) {t e : TypeId} {fuel : Nat} {v : Value} {x : DataW H × List MemPlace} (ht : P.underlying t = some (.slice e)) (hC : P.cellsOf e = k)
    (hel : ∀ n cs y, DataW.trod enc P w base spare held n e cs = some y → ∃ p : α, cs = e' p ∧ Q p) (h : DataW.trod enc P w base spare held fuel t [v] = some x) :
    ∃ xs : List α, Sl w k v xs.length (xs.flatMap e') ∧ ∀ p ∈ xs, Q p := by
  rcases open_slice ht h with ⟨h0, _⟩ | ⟨a, len, cap, m, n, D, Pl, hcs, _, hlc, hcm, hm, _, hi⟩
  · injection h0 with h0
    subst h0
    exact ⟨[], Sl.nil _ _, by simp⟩
  · injection hcs with hcs
    subst hcs
    have hlm : len ≤ m := by rw [hm]; split <;> omega
    rw [hC] at hi
    obtain ⟨xs, hxl, hx⟩ := list_of (Q := fun i (p : α) => Q p ∧ ∀ j u, (e' p)[j]? = some u → w.cell? (a.add (i * k + j)) = some u) len (fun i hil => by
      obtain ⟨cs, hc, htr⟩ := hi i (by omega)
      obtain ⟨p, rfl, hq⟩ := hel _ _ _ htr
      obtain ⟨_, hcl, hat⟩ := World.cells?_some hc
      refine ⟨p, hq, fun j u hu => ?_⟩
      have hj : j < k := by have := (List.getElem?_eq_some_iff.1 hu).1; rw [hk] at this; exact this
      rw [← Go.Deep.add_add, hat j hj, hu])
    refine ⟨xs, ⟨by rw [flat_len e' hk], .inr ⟨a, cap, by rw [hxl], by omega, hcm, fun hn => ?_⟩⟩, fun p hp => ?_⟩
    · have h0 : (e' xs[0])[0]? = some ((e' xs[0])[0]'(by rw [hk]; exact hk0)) := List.getElem?_eq_getElem _
      have h1 := (hx 0 hn).2 0 _ h0
      rw [show 0 * k + 0 = 0 from by simp, show a.add 0 = a from by simp [Addr.add]] at h1
      obtain ⟨hs, hb⟩ := spot_of_cell h1
      refine ⟨hs, hb, fun j u hu => ?_⟩
      obtain ⟨i, hi', r, rfl, hr⟩ := flat_at e' hk xs j u hu
      have := (hx i hi').2 r u hr
      obtain ⟨b, o, s⟩ := a
      simp only at hs
      subst hs
      rwa [add_none] at this
    · obtain ⟨i, hi', rfl⟩ := List.getElem_of_mem hp
      exact (hx i hi').1

end
end Go.Proofs.Ytngimbfojccikaa
