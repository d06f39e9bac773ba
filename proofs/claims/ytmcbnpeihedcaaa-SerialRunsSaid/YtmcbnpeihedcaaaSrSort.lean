/- Lists in which elements are exchanged: what a stable sort keeps, and what it comes to. Plain. -/
namespace Go.Proofs.Ytmcbnpeihedcaaa
set_option linter.unusedSimpArgs false
set_option linter.unusedVariables false

section
variable {α : Type} (key : α → Int)

/-- A list with two of its places exchanged. -/
def swp (l : List α) (i j : Nat) : List α :=
  match l[i]?, l[j]? with
  | some x, some y => (l.set i y).set j x
  | _, _ => l
variable {key}
theorem swp_len (l : List α) (i j : Nat) : (swp l i j).length = l.length := by unfold swp; split <;> simp
theorem swp_eq {l : List α} {i j : Nat} (hi : i < l.length) (hj : j < l.length) : swp l i j = (l.set i l[j]).set j l[i] := by
  unfold swp; rw [List.getElem?_eq_getElem hi, List.getElem?_eq_getElem hj]
theorem swp_at {l : List α} {i j : Nat} (hi : i < l.length) (hj : j < l.length) (p : Nat) : (swp l i j)[p]? = if p = i then l[j]? else if p = j then l[i]? else l[p]? := by
  rw [swp_eq hi hj, List.getElem?_set, List.getElem?_set]
  simp only [List.length_set]
  rw [List.getElem?_eq_getElem hi, List.getElem?_eq_getElem hj]
  by_cases h1 : j = p
  · subst h1
    by_cases h2 : j = i
    · subst h2; simp [hj]
    · simp [h2, hj]
  · by_cases h2 : i = p
    · subst h2; simp [h1, hi]
    · rw [if_neg h1, if_neg h2, if_neg (fun h => h2 h.symm), if_neg (fun h => h1 h.symm)]

theorem swp_comm (l : List α) (i j : Nat) : swp l i j = swp l j i := by
  by_cases hi : i < l.length
  · by_cases hj : j < l.length
    · apply List.ext_getElem?
      intro p
      rw [swp_at hi hj, swp_at hj hi]
      by_cases h1 : p = i
      · by_cases h2 : p = j
        · rw [← h1, ← h2]
        · rw [if_pos h1, if_neg h2, if_pos h1]
      · by_cases h2 : p = j
        · rw [if_neg h1, if_pos h2, if_pos h2]
        · rw [if_neg h1, if_neg h2, if_neg h2, if_neg h1]
    · have : l[j]? = none := List.getElem?_eq_none (by omega)
      unfold swp
      rw [this]
      cases l[i]? <;> rfl
  · have : l[i]? = none := List.getElem?_eq_none (by omega)
    unfold swp
    rw [this]
    cases l[j]? <;> rfl

variable (key)
/-- Elements of one key stand in the same order in both. -/
def Stab (l l' : List α) : Prop := ∀ k : Int, l'.filter (fun x => key x == k) = l.filter (fun x => key x == k)
variable {key}
theorem Stab.refl (l : List α) : Stab key l l := fun _ => rfl
theorem Stab.trans {l l' l'' : List α} (h : Stab key l l') (h2 : Stab key l' l'') : Stab key l l'' := fun k => (h2 k).trans (h k)
theorem Stab.len {l l' : List α} (h : Stab key l l') : l'.length = l.length := by
  have hc : ∀ (l : List α), ∀ (L : List α), (∀ k : Int, (L.filter (fun x => key x == k)).length = (l.filter (fun x => key x == k)).length) → L.length = l.length := by
    intro l
    induction hn : l.length using Nat.strongRecOn generalizing l with
    | ind n ih =>
      intro L h
      cases l with
      | nil =>
        cases L with
        | nil => simpa using hn
        | cons x L => have := h (key x); simp at this
      | cons x l =>
        have hp : ∀ (M : List α), M.length = (M.filter (fun y => key y == key x)).length + (M.filter (fun y => !(key y == key x))).length := by
          intro M
          induction M with
          | nil => rfl
          | cons y M ih2 =>
            rw [List.length_cons, List.filter_cons, List.filter_cons]
            cases key y == key x <;> simp <;> omega
        have h1 := hp L
        have h2 := hp (x :: l)
        have hlt : ((x :: l).filter (fun y => !(key y == key x))).length < n := by
          rw [← hn]
          have : 0 < ((x :: l).filter (fun y => key y == key x)).length := by simp
          omega
        have h3 := ih _ hlt ((x :: l).filter (fun y => !(key y == key x))) rfl (L.filter (fun y => !(key y == key x))) (fun k => by
          rw [List.filter_filter, List.filter_filter]
          by_cases e : k = key x
          · subst e
            have : ∀ M : List α, (M.filter fun y => (key y == key x) && !(key y == key x)) = [] := fun M => by
              rw [List.filter_eq_nil_iff]
              intro y _
              cases key y == key x <;> simp
            rw [this, this]
          · have : ∀ M : List α, (M.filter fun y => (key y == k) && !(key y == key x)) = M.filter fun y => key y == k := fun M => by
              apply List.filter_congr
              intro y _
              cases h : key y == k with
              | false => simp
              | true =>
                have : key y = k := by simpa using h
                simp [this, e]
            rw [this, this]
            exact h k)
        have h4 := h (key x)
        omega
  exact hc l l' fun k => by rw [h k]

theorem filter_split (l : List α) (q : α → Bool) (i : Nat) (h : i + 1 < l.length) : l.filter q = (l.take i).filter q ++ ([l[i], l[i+1]].filter q ++ (l.drop (i + 2)).filter q) := by
  have e : l = l.take i ++ ([l[i], l[i + 1]] ++ l.drop (i + 2)) := by
    have h1 : l.drop i = l[i] :: l.drop (i + 1) := List.drop_eq_getElem_cons (by omega)
    have h2 : l.drop (i + 1) = l[i + 1] :: l.drop (i + 2) := List.drop_eq_getElem_cons h
    calc l = l.take i ++ l.drop i := (List.take_append_drop i l).symm
      _ = _ := by rw [h1, h2]; rfl
  conv => lhs; rw [e]
  rw [List.filter_append, List.filter_append]

/-- Two neighbours of two keys exchanged. -/
theorem Stab.swp {l : List α} {i : Nat} (h : i + 1 < l.length) (hne : key l[i] ≠ key l[i + 1]) : Stab key l (swp l i (i + 1)) := fun k => by
  have hl : (Go.Proofs.Ytmcbnpeihedcaaa.swp l i (i + 1)).length = l.length := swp_len _ _ _
  rw [filter_split (Go.Proofs.Ytmcbnpeihedcaaa.swp l i (i + 1)) _ i (by omega), filter_split l _ i h]
  have e1 : (Go.Proofs.Ytmcbnpeihedcaaa.swp l i (i + 1)).take i = l.take i := by
    apply List.ext_getElem?
    intro p
    rw [List.getElem?_take, List.getElem?_take]
    split
    · rw [swp_at (by omega) h, if_neg (by omega), if_neg (by omega)]
    · rfl
  have e2 : (Go.Proofs.Ytmcbnpeihedcaaa.swp l i (i + 1)).drop (i + 2) = l.drop (i + 2) := by
    apply List.ext_getElem?
    intro p
    rw [List.getElem?_drop, List.getElem?_drop, swp_at (by omega) h, if_neg (by omega), if_neg (by omega)]
  have e3 : (Go.Proofs.Ytmcbnpeihedcaaa.swp l i (i + 1))[i]'(by omega) = l[i + 1] := by
    have := swp_at (i := i) (j := i + 1) (by omega) h i
    rw [if_pos rfl, List.getElem?_eq_getElem (by omega), List.getElem?_eq_getElem h] at this
    exact Option.some.inj this
  have e4 : (Go.Proofs.Ytmcbnpeihedcaaa.swp l i (i + 1))[i + 1]'(by omega) = l[i] := by
    have := swp_at (i := i) (j := i + 1) (by omega) h (i + 1)
    rw [if_neg (by omega), if_pos rfl, List.getElem?_eq_getElem (by omega), List.getElem?_eq_getElem (by omega)] at this
    exact Option.some.inj this
  rw [e1, e2, e3, e4]
  congr 2
  simp only [List.filter_cons, List.filter_nil]
  by_cases h1 : key l[i] = k
  · have h2 : key l[i + 1] ≠ k := fun e => hne (h1.trans e.symm)
    simp [h1, h2]
  · simp [h1]

/-- Rising keys from a on, below b. -/
def Srt (key : α → Int) (l : List α) (a b : Nat) : Prop := ∀ p q x y, a ≤ p → p < q → q < b → l[p]? = some x → l[q]? = some y → key x ≤ key y
/-- The same outside of a on below b. -/
def Out (l l' : List α) (a b : Nat) : Prop := ∀ p, p < a ∨ b ≤ p → l'[p]? = l[p]?
theorem Out.refl (l : List α) (a b : Nat) : Out l l a b := fun _ _ => rfl
theorem Out.trans {l l' l'' : List α} {a b : Nat} (h : Out l l' a b) (h2 : Out l' l'' a b) : Out l l'' a b := fun p hp => (h2 p hp).trans (h p hp)
theorem Out.mono {l l' : List α} {a b a' b' : Nat} (h : Out l l' a b) (h1 : a' ≤ a) (h2 : b ≤ b') : Out l l' a' b' := fun p hp => h p (by omega)

/-- What holds in insertion sort's inner loop. -/
def Ins (key : α → Int) (l m : List α) (a i j : Nat) : Prop :=
  Stab key l m ∧ m.length = l.length ∧ Out l m a (i + 1) ∧ ∀ p q x y, a ≤ p → p < q → q ≤ i → q ≠ j → m[p]? = some x → m[q]? = some y → key x ≤ key y
theorem Ins.start {l : List α} {a i : Nat} (h : Srt key l a i) : Ins key l l a i i := ⟨Stab.refl l, rfl, Out.refl _ _ _, fun p q x y h1 h2 h3 h4 h5 h6 => h p q x y h1 h2 (by omega) h5 h6⟩
theorem Ins.step {l m : List α} {a i j : Nat} (h : Ins key l m a i (j + 1)) (ha : a ≤ j) (hj : j + 1 ≤ i) (hi : i < l.length) {x y : α} (hx : m[j]? = some x) (hy : m[j + 1]? = some y) (hlt : key y < key x) :
    Ins key l (swp m j (j + 1)) a i j := by
  obtain ⟨h1, h2, h3, h4⟩ := h
  have hl : j + 1 < m.length := by omega
  have ex : m[j] = x := by rw [List.getElem?_eq_getElem (by omega)] at hx; exact Option.some.inj hx
  have ey : m[j + 1] = y := by rw [List.getElem?_eq_getElem hl] at hy; exact Option.some.inj hy
  refine ⟨h1.trans (Stab.swp hl (by rw [ex, ey]; omega)), by rw [swp_len, h2], fun p hp => ?_, fun p q u v hp hpq hq hne hu hv => ?_⟩
  · rw [swp_at (by omega) hl, if_neg (by omega), if_neg (by omega)]
    exact h3 p hp
  · rw [swp_at (by omega) hl] at hu hv
    rw [if_neg hne] at hv
    by_cases e : q = j + 1
    · subst e
      rw [if_pos rfl, hx] at hv
      cases hv
      by_cases e2 : p = j
      · subst e2
        rw [if_pos rfl, hy] at hu
        cases hu
        omega
      · rw [if_neg e2, if_neg (by omega)] at hu
        exact h4 p j u x hp (by omega) (by omega) (by omega) hu hx
    · rw [if_neg e] at hv
      by_cases e2 : p = j
      · subst e2
        rw [if_pos rfl] at hu
        exact h4 (p + 1) q u v (by omega) (by omega) hq (by omega) hu hv
      · rw [if_neg e2] at hu
        by_cases e3 : p = j + 1
        · subst e3
          rw [if_pos rfl] at hu
          exact h4 j q u v ha (by omega) hq (by omega) hu hv
        · rw [if_neg e3] at hu
          exact h4 p q u v hp hpq hq (by omega) hu hv
theorem Ins.done {l m : List α} {a i j : Nat} (h : Ins key l m a i j) (hd : j = a ∨ ∃ j', j = j' + 1 ∧ ∀ x y, m[j']? = some x → m[j' + 1]? = some y → key x ≤ key y) (hi : i < l.length) : Srt key m a (i + 1) := by
  intro p q x y hp hpq hq hx hy
  by_cases e : q = j
  · rcases hd with e2 | ⟨j', e2, hle⟩
    · omega
    · obtain rfl : q = j' + 1 := by omega
      have hz : j' < m.length := by have := h.2.1; omega
      have hle := hle m[j'] y (List.getElem?_eq_getElem hz) hy
      by_cases e3 : p = j'
      · subst e3
        rw [List.getElem?_eq_getElem hz] at hx
        cases hx
        exact hle
      · exact Int.le_trans (h.2.2.2 p j' x _ hp (by omega) (by omega) (by omega) hx (List.getElem?_eq_getElem hz)) hle
  · exact h.2.2.2 p q x y hp hpq (by omega) e hx hy

/-- The place of x among rising keys: ahead of all that are not less. -/
def insK (key : α → Int) (x : α) : List α → List α
  | [] => [x]
  | y :: l => if key x ≤ key y then x :: y :: l else y :: insK key x l
/-- The stable sort. -/
def srtK (key : α → Int) : List α → List α
  | [] => []
  | x :: l => insK key x (srtK key l)
end
end Go.Proofs.Ytmcbnpeihedcaaa
