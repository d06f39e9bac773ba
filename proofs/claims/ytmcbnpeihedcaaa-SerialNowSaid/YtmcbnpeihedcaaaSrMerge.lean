/- Lists: parts exchanged, turned round, and merged, as slices.SortStableFunc does it. Plain. -/
import Derived.Test.YtmcbnpeihedcaaaSrSort
namespace Go.Proofs.Ytmcbnpeihedcaaa
set_option linter.unusedSimpArgs false
set_option linter.unusedVariables false

section
variable {α : Type} {key : α → Int}

/-- n places from a on are exchanged with n places from b on. -/
def SwR (l l' : List α) (a b n : Nat) : Prop :=
  l'.length = l.length ∧ ∀ p, l'[p]? = if a ≤ p ∧ p < a + n then l[p - a + b]? else if b ≤ p ∧ p < b + n then l[p - b + a]? else l[p]?
theorem SwR.zero (l : List α) (a b : Nat) : SwR l l a b 0 := ⟨rfl, fun p => by rw [if_neg (by omega), if_neg (by omega)]⟩
theorem SwR.step {l m : List α} {a b i : Nat} (h : SwR l m a b i) (hab : a + i < b) (hb : b + i < l.length) : SwR l (swp m (a + i) (b + i)) a b (i + 1) := by
  obtain ⟨h1, h2⟩ := h
  refine ⟨by rw [swp_len, h1], fun p => ?_⟩
  rw [swp_at (by omega) (by omega), h2 p, h2 (b + i), h2 (a + i)]
  rw [if_neg (show ¬ (a ≤ b + i ∧ b + i < a + i) by omega), if_neg (show ¬ (b ≤ b + i ∧ b + i < b + i) by omega), if_neg (show ¬ (a ≤ a + i ∧ a + i < a + i) by omega), if_neg (show ¬ (b ≤ a + i ∧ a + i < b + i) by omega)]
  repeat' split
  all_goals first | rfl | (exfalso; omega) | (congr 1; omega)

/-- The parts from p on below m, and from m on below q, stand the other way round. -/
def RotL (l l' : List α) (p m q : Nat) : Prop :=
  l'.length = l.length ∧ ∀ k, l'[k]? = if p ≤ k ∧ k < q then (if k < p + (q - m) then l[k + (m - p)]? else l[k - (q - m)]?) else l[k]?
theorem RotL.end_ {l l' : List α} {m i : Nat} (h : SwR l l' (m - i) m i) (hi : i ≤ m) : RotL l l' (m - i) m (m + i) := by
  refine ⟨h.1, fun k => ?_⟩
  rw [h.2 k]
  repeat' split
  all_goals first | rfl | (exfalso; omega) | (congr 1; omega)
theorem RotL.more {l l' R : List α} {m i j : Nat} (h : SwR l l' (m - i) m j) (hi : i ≤ m) (hj : j < i) (hR : RotL l' R (m - (i - j)) m (m + j)) : RotL l R (m - i) m (m + j) := by
  refine ⟨hR.1.trans h.1, fun k => ?_⟩
  rw [hR.2 k, h.2 k, h.2 (k + (m - (m - (i - j)))), h.2 (k - (m + j - m))]
  repeat' split
  all_goals first | rfl | (exfalso; omega) | (congr 1; omega)
theorem RotL.less {l l' R : List α} {m i j : Nat} (h : SwR l l' (m - i) (m + j - i) i) (hi : i ≤ m) (hj : i < j) (hR : RotL l' R (m - i) m (m + (j - i))) : RotL l R (m - i) m (m + j) := by
  refine ⟨hR.1.trans h.1, fun k => ?_⟩
  rw [hR.2 k, h.2 k, h.2 (k + (m - (m - i))), h.2 (k - (m + (j - i) - m))]
  repeat' split
  all_goals first | rfl | (exfalso; omega) | (congr 1; omega)

/-- The key at a place. -/
def kAt (key : α → Int) (l : List α) (p : Nat) : Int := ((l[p]?).map key).getD 0
theorem kAt_eq {l l' : List α} {p q : Nat} (h : l'[p]? = l[q]?) : kAt key l' p = kAt key l q := by unfold kAt; rw [h]
theorem kAt_some {l : List α} {p : Nat} {x : α} (h : l[p]? = some x) : kAt key l p = key x := by unfold kAt; rw [h]; rfl
theorem srt_iff {l : List α} {a b : Nat} (hb : b ≤ l.length) : Srt key l a b ↔ ∀ p q, a ≤ p → p < q → q < b → kAt key l p ≤ kAt key l q := by
  constructor
  · intro h p q h1 h2 h3
    have hp : p < l.length := by omega
    have hq : q < l.length := by omega
    rw [kAt_some (List.getElem?_eq_getElem hp), kAt_some (List.getElem?_eq_getElem hq)]
    exact h p q _ _ h1 h2 h3 (List.getElem?_eq_getElem hp) (List.getElem?_eq_getElem hq)
  · intro h p q x y h1 h2 h3 hx hy
    have := h p q h1 h2 h3
    rwa [kAt_some hx, kAt_some hy] at this

/-- Parts turned round of which no two elements are of one key. -/
theorem Stab.rot {l l' : List α} {p m q : Nat} (h : RotL l l' p m q) (h1 : p ≤ m) (h2 : m ≤ q) (h3 : q ≤ l.length) (hk : ∀ i j, p ≤ i → i < m → m ≤ j → j < q → kAt key l i ≠ kAt key l j) : Stab key l l' := fun k => by
  have part : ∀ (L : List α) (a b c : Nat), a ≤ b → b ≤ c → c ≤ L.length → L.filter (fun x => key x == k) = (L.take a).filter (fun x => key x == k) ++ (((L.drop a).take (b - a)).filter (fun x => key x == k) ++ (((L.drop b).take (c - b)).filter (fun x => key x == k) ++ (L.drop c).filter (fun x => key x == k))) := by
    intro L a b c hab hbc hc
    have e1 : L.drop b = (L.drop b).take (c - b) ++ L.drop c := by
      have := (List.take_append_drop (c - b) (L.drop b)).symm
      rwa [List.drop_drop, show b + (c - b) = c from by omega] at this
    have e2 : L.drop a = (L.drop a).take (b - a) ++ L.drop b := by
      have := (List.take_append_drop (b - a) (L.drop a)).symm
      rwa [List.drop_drop, show a + (b - a) = b from by omega] at this
    have e : L = L.take a ++ ((L.drop a).take (b - a) ++ ((L.drop b).take (c - b) ++ L.drop c)) := by
      rw [← e1, ← e2, List.take_append_drop]
    conv => lhs; rw [e]
    simp only [List.filter_append]
  have hl := h.1
  rw [part l' p (p + (q - m)) q (by omega) (by omega) (by omega), part l p m q h1 h2 h3]
  have e1 : l'.take p = l.take p := by
    apply List.ext_getElem?
    intro k
    rw [List.getElem?_take, List.getElem?_take, h.2 k]
    repeat' split
    all_goals first | rfl | (exfalso; omega)
  have e2 : l'.drop q = l.drop q := by
    apply List.ext_getElem?
    intro k
    rw [List.getElem?_drop, List.getElem?_drop, h.2 (q + k), if_neg (by omega)]
  have e3 : (l'.drop p).take (p + (q - m) - p) = (l.drop m).take (q - m) := by
    apply List.ext_getElem?
    intro k
    rw [List.getElem?_take, List.getElem?_take, List.getElem?_drop, List.getElem?_drop, h.2 (p + k)]
    repeat' split
    all_goals first | rfl | (exfalso; omega) | (congr 1; omega)
  have e4 : (l'.drop (p + (q - m))).take (q - (p + (q - m))) = (l.drop p).take (m - p) := by
    apply List.ext_getElem?
    intro k
    rw [List.getElem?_take, List.getElem?_take, List.getElem?_drop, List.getElem?_drop, h.2 (p + (q - m) + k)]
    repeat' split
    all_goals first | rfl | (exfalso; omega) | (congr 1; omega)
  rw [e1, e2, e3, e4]
  congr 1
  rw [← List.append_assoc, ← List.append_assoc]
  congr 1
  have hmem : ∀ (a n : Nat) (x : α), x ∈ (l.drop a).take n → ∃ i, a ≤ i ∧ i < a + n ∧ l[i]? = some x := by
    intro a n x hx
    obtain ⟨i, hi⟩ := List.getElem?_of_mem hx
    rw [List.getElem?_take] at hi
    split at hi
    · rw [List.getElem?_drop] at hi
      exact ⟨a + i, by omega, by omega, hi⟩
    · cases hi
  by_cases hX : ∃ x, x ∈ (l.drop p).take (m - p) ∧ key x = k
  · obtain ⟨x, hx, hxk⟩ := hX
    obtain ⟨i, i1, i2, i3⟩ := hmem _ _ _ hx
    have : ((l.drop m).take (q - m)).filter (fun x => key x == k) = [] := by
      rw [List.filter_eq_nil_iff]
      intro y hy hyk
      obtain ⟨j, j1, j2, j3⟩ := hmem _ _ _ hy
      have := hk i j i1 (by omega) j1 (by omega)
      rw [kAt_some i3, kAt_some j3] at this
      simp at hyk
      exact this (hxk.trans hyk.symm)
    rw [this]; simp
  · have : ((l.drop p).take (m - p)).filter (fun x => key x == k) = [] := by
      rw [List.filter_eq_nil_iff]
      intro y hy hyk
      exact hX ⟨y, hy, by simpa using hyk⟩
    rw [this]; simp

/-- What stands in a part comes from it. -/
theorem from_of {l l' : List α} {a b : Nat} (hs : Stab key l l') (ho : Out l l' a b) (hb : b ≤ l.length) (hab : a ≤ b) (p : Nat) (h1 : a ≤ p) (h2 : p < b) : ∃ q, a ≤ q ∧ q < b ∧ kAt key l' p = kAt key l q := by
  have hl := hs.len
  have part : ∀ (L : List α) (k : Int), b ≤ L.length → L.filter (fun x => key x == k) = (L.take a).filter (fun x => key x == k) ++ (((L.drop a).take (b - a)).filter (fun x => key x == k) ++ (L.drop b).filter (fun x => key x == k)) := by
    intro L k hc
    have e2 : L.drop a = (L.drop a).take (b - a) ++ L.drop b := by
      have := (List.take_append_drop (b - a) (L.drop a)).symm
      rwa [List.drop_drop, show a + (b - a) = b from by omega] at this
    have e : L = L.take a ++ ((L.drop a).take (b - a) ++ L.drop b) := by rw [← e2, List.take_append_drop]
    conv => lhs; rw [e]
    simp only [List.filter_append]
  have hp : p < l'.length := by omega
  have hk := hs (key l'[p])
  rw [part l' _ (by omega), part l _ hb] at hk
  have e1 : l'.take a = l.take a := by
    apply List.ext_getElem?
    intro k
    rw [List.getElem?_take, List.getElem?_take]
    split
    · exact ho k (.inl (by omega))
    · rfl
  have e2 : l'.drop b = l.drop b := by
    apply List.ext_getElem?
    intro k
    rw [List.getElem?_drop, List.getElem?_drop]
    exact ho _ (.inr (by omega))
  rw [e1, e2] at hk
  have hk2 := List.append_cancel_right (List.append_cancel_left hk)
  have hm : l'[p] ∈ ((l'.drop a).take (b - a)).filter (fun x => key x == key l'[p]) := by
    rw [List.mem_filter]
    refine ⟨?_, by simp⟩
    have : ((l'.drop a).take (b - a))[p - a]? = some l'[p] := by
      rw [List.getElem?_take, if_pos (by omega), List.getElem?_drop, show a + (p - a) = p from by omega, List.getElem?_eq_getElem hp]
    exact List.mem_of_getElem? this
  rw [hk2, List.mem_filter] at hm
  obtain ⟨i, hi⟩ := List.getElem?_of_mem hm.1
  rw [List.getElem?_take] at hi
  split at hi
  · rw [List.getElem?_drop] at hi
    refine ⟨a + i, by omega, by omega, ?_⟩
    rw [kAt_some hi, kAt_some (List.getElem?_eq_getElem hp)]
  · cases hi

/-- The element of a has been moved up to k. -/
def MvU (key : α → Int) (l m : List α) (a k : Nat) : Prop := Stab key l m ∧ m.length = l.length ∧ ∀ p, m[p]? = if a ≤ p ∧ p < k then l[p + 1]? else if p = k then l[a]? else l[p]?
theorem MvU.zero (l : List α) (a : Nat) : MvU key l l a a := ⟨Stab.refl l, rfl, fun p => by rw [if_neg (by omega)]; split <;> simp_all⟩
theorem MvU.step {l m : List α} {a k : Nat} (h : MvU key l m a k) (hak : a ≤ k) (hk : k + 1 < l.length) (hlt : kAt key l (k + 1) < kAt key l a) : MvU key l (swp m k (k + 1)) a (k + 1) := by
  obtain ⟨h1, h2, h3⟩ := h
  have hl : k + 1 < m.length := by omega
  refine ⟨h1.trans (Stab.swp hl ?_), by rw [swp_len, h2], fun p => ?_⟩
  · have e1 : kAt key m k = kAt key l a := kAt_eq (by rw [h3 k, if_neg (by omega), if_pos rfl])
    have e2 : kAt key m (k + 1) = kAt key l (k + 1) := kAt_eq (by rw [h3 (k + 1), if_neg (by omega), if_neg (by omega)])
    rw [kAt_some (List.getElem?_eq_getElem (by omega))] at e1
    rw [kAt_some (List.getElem?_eq_getElem hl)] at e2
    omega
  · rw [swp_at (by omega) hl, h3 p, h3 k, h3 (k + 1)]
    rw [if_neg (show ¬ (a ≤ k ∧ k < k) by omega), if_pos rfl, if_neg (show ¬ (a ≤ k + 1 ∧ k + 1 < k) by omega), if_neg (show ¬ (k + 1 = k) by omega)]
    repeat' split
    all_goals first | rfl | (exfalso; omega) | (congr 1; omega)
/-- The element of m has been moved down to k. -/
def MvD (key : α → Int) (l m : List α) (a k : Nat) : Prop := Stab key l m ∧ m.length = l.length ∧ ∀ p, m[p]? = if k < p ∧ p ≤ a then l[p - 1]? else if p = k then l[a]? else l[p]?
theorem MvD.zero (l : List α) (a : Nat) : MvD key l l a a := ⟨Stab.refl l, rfl, fun p => by rw [if_neg (by omega)]; split <;> simp_all⟩
theorem MvD.step {l m : List α} {a k : Nat} (h : MvD key l m a (k + 1)) (hak : k + 1 ≤ a) (hk : a < l.length) (hlt : kAt key l a < kAt key l k) : MvD key l (swp m k (k + 1)) a k := by
  obtain ⟨h1, h2, h3⟩ := h
  have hl : k + 1 < m.length := by omega
  refine ⟨h1.trans (Stab.swp hl ?_), by rw [swp_len, h2], fun p => ?_⟩
  · have e1 : kAt key m k = kAt key l k := kAt_eq (by rw [h3 k, if_neg (by omega), if_neg (by omega)])
    have e2 : kAt key m (k + 1) = kAt key l a := kAt_eq (by rw [h3 (k + 1), if_neg (by omega), if_pos rfl])
    rw [kAt_some (List.getElem?_eq_getElem (by omega))] at e1
    rw [kAt_some (List.getElem?_eq_getElem hl)] at e2
    omega
  · rw [swp_at (by omega) hl, h3 p, h3 k, h3 (k + 1)]
    rw [if_neg (show ¬ (k + 1 < k ∧ k ≤ a) by omega), if_neg (show ¬ (k = k + 1) by omega), if_neg (show ¬ (k + 1 < k + 1 ∧ k + 1 ≤ a) by omega), if_pos rfl]
    repeat' split
    all_goals first | rfl | (exfalso; omega) | (congr 1; omega)
end
end Go.Proofs.Ytmcbnpeihedcaaa
