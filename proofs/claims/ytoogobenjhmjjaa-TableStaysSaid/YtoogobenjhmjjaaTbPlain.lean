/- What layer 17's functions come to: plain lists, no program. What may be stays so. -/
import Derived.Test.YtoogobenjhmjjaaTbPgPlain
namespace Go.Proofs.Ytoogobenjhmjjaa
open Go
set_option linter.unusedVariables false

/-- How often a page stands in tables. -/
def cnt (ts : List (List Int)) (p : Nat) : Nat := ts.flatten.count (p : Int)

structure MH (cap : Int) (ps : List Pg) (ts : List (List Int)) : Prop where
  may : mayP cap ps = true
  five : ts.length ≤ 5
  len : ∀ t ∈ ts, t.length = 0 ∨ t.length = 4
  pl : ∀ t ∈ ts, ∀ x ∈ t, x = -1 ∨ ∃ q : Nat, x = (q : Int) ∧ q < ps.length
  refs : ∀ p (hp : p < ps.length), ps[p].r = ((cnt ts p : Nat) : Int)

theorem okTb_iff {n : Nat} {t : List Int} : okTb n t = true ↔ (t.length = 0 ∨ t.length = 4) ∧ ∀ x ∈ t, x = -1 ∨ ∃ q : Nat, x = (q : Int) ∧ q < n := by
  unfold okTb okPl
  simp only [Bool.and_eq_true, Bool.or_eq_true, beq_iff_eq, List.all_eq_true, decide_eq_true_eq]
  constructor
  · rintro ⟨h1, h2⟩
    refine ⟨h1, fun x hx => ?_⟩
    rcases h2 x hx with h | h
    · exact .inl h
    · exact .inr ⟨x.toNat, by omega, by omega⟩
  · rintro ⟨h1, h2⟩
    refine ⟨h1, fun x hx => ?_⟩
    rcases h2 x hx with h | ⟨q, rfl, h⟩
    · exact .inl h
    · exact .inr (by omega)

theorem mayH_iff {cap : Int} {ps : List Pg} {ts : List (List Int)} : mayH cap ps ts = true ↔ MH cap ps ts := by
  unfold mayH
  simp only [Bool.and_eq_true, decide_eq_true_eq, List.all_eq_true]
  constructor
  · rintro ⟨h1, h2, h3, h4⟩
    refine ⟨h1, h2, fun t ht => (okTb_iff.1 (h3 t ht)).1, fun t ht => (okTb_iff.1 (h3 t ht)).2, fun p hp => ?_⟩
    have := eqR_at p (by rw [cnts_len]; exact hp) hp h4
    unfold isRefs at this
    rw [beq_iff_eq, cnts_at _ _ _ hp] at this
    exact this.symm
  · rintro ⟨h1, h2, h3, h4, h5⟩
    refine ⟨h1, h2, fun t ht => okTb_iff.2 ⟨h3 t ht, h4 t ht⟩, eqR_all (cnts_len _ _) fun p a b => ?_⟩
    unfold isRefs
    rw [beq_iff_eq, cnts_at _ _ _ b]
    exact (h5 p b).symm

/-! ### Counts -/
theorem count_set {t : List Int} {j : Nat} (hj : j < t.length) (y x : Int) : (t.set j y).count x + (if t[j] = x then 1 else 0) = t.count x + (if y = x then 1 else 0) := by
  induction t generalizing j with
  | nil => simp at hj
  | cons a t ih =>
    match j with
    | 0 =>
      simp only [List.set_cons_zero, List.count_cons, List.getElem_cons_zero, beq_iff_eq]
      omega
    | j + 1 =>
      have := ih (j := j) (by simpa using hj)
      simp only [List.set_cons_succ, List.count_cons, List.getElem_cons_succ]
      omega
theorem cnt_cons (t : List Int) (ts : List (List Int)) (p : Nat) : cnt (t :: ts) p = t.count (p : Int) + cnt ts p := by
  unfold cnt; rw [List.flatten_cons, List.count_append]
theorem cnt_snoc (t : List Int) (ts : List (List Int)) (p : Nat) : cnt (ts ++ [t]) p = cnt ts p + t.count (p : Int) := by
  unfold cnt; rw [List.flatten_append, List.count_append]; simp
theorem cnt_set {ts : List (List Int)} {k : Nat} (hk : k < ts.length) (t : List Int) (p : Nat) : cnt (ts.set k t) p + ts[k].count (p : Int) = cnt ts p + t.count (p : Int) := by
  induction ts generalizing k with
  | nil => simp at hk
  | cons a ts ih =>
    match k with
    | 0 =>
      simp only [List.set_cons_zero, cnt_cons, List.getElem_cons_zero]
      omega
    | k + 1 =>
      have := ih (k := k) (by simpa using hk)
      simp only [List.set_cons_succ, cnt_cons, List.getElem_cons_succ]
      omega
theorem cnt_put {ts : List (List Int)} {k j : Nat} (hk : k < ts.length) (hj : j < ts[k].length) (y : Int) (p : Nat) :
    cnt (ts.set k (ts[k].set j y)) p + (if ts[k][j] = (p : Int) then 1 else 0) = cnt ts p + (if y = (p : Int) then 1 else 0) := by
  have h1 := cnt_set hk (ts[k].set j y) p
  have h2 := count_set hj y (p : Int)
  omega
theorem cnt_pos {ts : List (List Int)} {k j p : Nat} (hk : k < ts.length) (hj : j < ts[k].length) (h : ts[k][j] = (p : Int)) : 1 ≤ cnt ts p := by
  unfold cnt
  have : (p : Int) ∈ ts.flatten := List.mem_flatten.2 ⟨ts[k], List.getElem_mem hk, h ▸ List.getElem_mem hj⟩
  exact List.count_pos_iff.2 this
/-- A page that stands at two places is counted twice. -/
theorem cnt_two {ts : List (List Int)} {k j k' j' p : Nat} (hk : k < ts.length) (hj : j < ts[k].length) (hk' : k' < ts.length) (hj' : j' < ts[k'].length) (h : ts[k][j] = (p : Int)) (h' : ts[k'][j'] = (p : Int)) (hne : ¬ (k = k' ∧ j = j')) : 2 ≤ cnt ts p := by
  have h1 := cnt_put hk hj (-1) p
  rw [if_pos h, if_neg (by omega)] at h1
  have hk2 : k' < (ts.set k (ts[k].set j (-1))).length := by simpa using hk'
  have e : (ts.set k (ts[k].set j (-1)))[k']? = some (if k = k' then ts[k].set j (-1) else ts[k']) := by
    by_cases e : k = k'
    · subst e; rw [if_pos rfl, List.getElem?_set_self hk]
    · rw [if_neg e, List.getElem?_set_ne e, List.getElem?_eq_getElem hk']
  have h2 : 1 ≤ cnt (ts.set k (ts[k].set j (-1))) p := by
    unfold cnt
    refine List.count_pos_iff.2 (List.mem_flatten.2 ⟨_, List.mem_of_getElem? e, ?_⟩)
    by_cases e : k = k'
    · subst e
      rw [if_pos rfl]
      have : j ≠ j' := fun e => hne ⟨rfl, e⟩
      refine List.mem_of_getElem? (i := j') ?_
      rw [List.getElem?_set_ne this, List.getElem?_eq_getElem hj', h']
    · rw [if_neg e, ← h']
      exact List.getElem_mem hj'
  omega
theorem count_le4 {t : List Int} (h : t.length = 0 ∨ t.length = 4) (x : Int) : t.count x ≤ 4 := by
  have := List.count_le_length (a := x) (l := t)
  omega
theorem cnt_le {ts : List (List Int)} (h : ∀ t ∈ ts, t.length = 0 ∨ t.length = 4) (p : Nat) : cnt ts p ≤ 4 * ts.length := by
  induction ts with
  | nil => simp [cnt]
  | cons a ts ih =>
    have h1 := ih fun t ht => h t (by simp [ht])
    have h2 := count_le4 (h a (by simp)) (p : Int)
    rw [cnt_cons, List.length_cons]
    omega

section
variable {cap : Int} {ps qs : List Pg} {ts : List (List Int)} {k j p : Nat}
theorem MH.le20 (h : MH cap ps ts) (p : Nat) : cnt ts p ≤ 20 := by
  have := cnt_le h.len p
  have := h.five
  omega
theorem MH.four (h : MH cap ps ts) (hk : k < ts.length) (hne : ts[k].length ≠ 0) : ts[k].length = 4 := by
  rcases h.len _ (List.getElem_mem hk) with e | e
  · exact absurd e hne
  · exact e
theorem MH.place (h : MH cap ps ts) (hk : k < ts.length) (hj : j < ts[k].length) : ts[k][j] = -1 ∨ ∃ q : Nat, ts[k][j] = (q : Int) ∧ ∃ hq : q < ps.length, 1 ≤ ps[q].r ∧ ps[q].r ≤ 20 := by
  rcases h.pl _ (List.getElem_mem hk) _ (List.getElem_mem hj) with e | ⟨q, e, hq⟩
  · exact .inl e
  · refine .inr ⟨q, e, hq, ?_⟩
    have h1 := cnt_pos hk hj e
    have h2 := h.le20 q
    have h3 := h.refs q hq
    omega
/-- No place has a page that is not there. -/
theorem MH.no (h : MH cap ps ts) (hp : ps.length ≤ p) : cnt ts p = 0 := by
  unfold cnt
  rw [List.count_eq_zero]
  intro hm
  obtain ⟨t, ht, hx⟩ := List.mem_flatten.1 hm
  rcases h.pl t ht _ hx with e | ⟨q, e, hq⟩ <;> omega

/-! ### Share and Free of many -/
/-- A page that is had n times less. -/
def less (x : Pg) (n : Nat) : Pg := if x.r - n = 0 then ⟨0, 0, 0, 0, 0⟩ else { x with r := x.r - n }
theorem less_zero {x : Pg} (h : oddP x = false) : less x 0 = x := by
  unfold less
  by_cases e : x.r = 0
  · rw [if_pos (by omega), odd_zero h e]
  · rw [if_neg (by omega)]; simp
theorem less_succ {x : Pg} {n : Nat} (h : (n : Int) < x.r) : less x (n + 1) = if (less x n).r - 1 = 0 then ⟨0, 0, 0, 0, 0⟩ else { less x n with r := (less x n).r - 1 } := by
  have h1 : less x n = { x with r := x.r - n } := by unfold less; rw [if_neg (by omega)]
  rw [h1]
  unfold less
  simp only
  rw [show x.r - ((n + 1 : Nat) : Int) = x.r - (n : Int) - 1 from by omega]

theorem share_all (hm : mayP cap ps = true) (xs : List Int) (h : ∀ x ∈ xs, ∃ q : Nat, x = (q : Int) ∧ ∃ hq : q < ps.length, 1 ≤ ps[q].r ∧ ps[q].r + xs.length ≤ 1000) :
    mayP cap (each_shareL cap ps xs) = true ∧ ∀ p (hp : p < ps.length), (each_shareL cap ps xs)[p]? = some { ps[p] with r := ps[p].r + ((xs.count (p : Int) : Nat) : Int) } := by
  induction xs generalizing ps with
  | nil =>
    refine ⟨hm, fun p hp => ?_⟩
    show ps[p]? = _
    simp [List.getElem?_eq_getElem hp]
  | cons x xs ih =>
    obtain ⟨q, rfl, hq, h1, h2⟩ := h _ (List.mem_cons_self ..)
    simp only [List.length_cons] at h2 h
    have hs : shareL cap ps (q : Int) = (0, ps.set q { ps[q] with r := ps[q].r + 1 }) := by
      unfold shareL
      rw [if_pos (had_mk hm hq (by omega)), pgAt_get hq, if_neg (by omega), Int.toNat_natCast]
    have hm2 : mayP cap (ps.set q { ps[q] with r := ps[q].r + 1 }) = true := by have := shareL_may hm (q : Int); rwa [hs] at this
    obtain ⟨i1, i2⟩ := ih hm2 (fun x hx => by
      obtain ⟨q', rfl, hq', h3, h4⟩ := h x (List.mem_cons_of_mem _ hx)
      refine ⟨q', rfl, by simpa using hq', ?_⟩
      rw [List.getElem_set]
      split
      · simp only; rename_i e; subst e; omega
      · omega)
    have hE : each_shareL cap ps ((q : Int) :: xs) = each_shareL cap (ps.set q { ps[q] with r := ps[q].r + 1 }) xs := by
      show each_shareL cap (shareL cap ps (q : Int)).2 xs = _
      rw [hs]
    rw [hE]
    refine ⟨i1, fun p hp => ?_⟩
    rw [i2 p (by simpa using hp), List.count_cons]
    congr 1
    rw [List.getElem_set]
    by_cases e : q = p
    · subst e; simp; omega
    · rw [if_neg e]
      have : ¬ ((q : Int) = (p : Int)) := by omega
      simp [this]

theorem snoc_ind {α : Type} {P : List α → Prop} (h0 : P []) (h1 : ∀ xs x, P xs → P (xs ++ [x])) (xs : List α) : P xs := by
  rw [← List.reverse_reverse xs]
  induction xs.reverse with
  | nil => exact h0
  | cons a l ih => rw [List.reverse_cons]; exact h1 _ _ ih

theorem free_all (hm : mayP cap ps = true) (xs : List Int) (h : ∀ x ∈ xs, ∃ q : Nat, x = (q : Int) ∧ q < ps.length) (hc : ∀ p (hp : p < ps.length), ((xs.count (p : Int) : Nat) : Int) ≤ ps[p].r) :
    mayP cap (each_freeL cap ps xs) = true ∧ ∀ p (hp : p < ps.length), (each_freeL cap ps xs)[p]? = some (less ps[p] (xs.count (p : Int))) := by
  induction xs using snoc_ind with
  | h0 =>
    refine ⟨hm, fun p hp => ?_⟩
    show ps[p]? = _
    rw [List.getElem?_eq_getElem hp, List.count_nil, less_zero (may_odd hm p hp)]
  | h1 xs x ih =>
    obtain ⟨i1, i2⟩ := ih (fun y hy => h y (by simp [hy])) (fun p hp => by
      have := hc p hp
      rw [List.count_append] at this
      omega)
    obtain ⟨q, rfl, hq⟩ := h x (by simp)
    have hcq := hc q hq
    rw [List.count_append] at hcq
    simp only [List.count_singleton_self] at hcq
    rw [each_freeL_snoc]
    have hl := each_freeL_len cap xs ps
    have hq2 : q < (each_freeL cap ps xs).length := by omega
    have i3 := i2 q hq
    rw [List.getElem?_eq_getElem hq2] at i3
    have i4 := Option.some.inj i3
    have hr : (each_freeL cap ps xs)[q].r = ps[q].r - ((xs.count (q : Int) : Nat) : Int) := by
      rw [i4]; unfold less; rw [if_neg (by omega)]
    have hf : freeX cap (each_freeL cap ps xs) (q : Int) = (0, (each_freeL cap ps xs).set q (less ps[q] (xs.count (q : Int) + 1))) := by
      unfold freeX
      rw [if_pos (had_mk i1 hq2 (by omega)), Int.toNat_natCast]
      unfold freeL
      rw [pgAt_get hq2, less_succ (by omega), ← i4]
      split <;> rfl
    rw [hf]
    refine ⟨by have := freeX_may i1 (q : Int); rwa [hf] at this, fun p hp => ?_⟩
    by_cases e : q = p
    · subst e
      rw [List.getElem?_set_self hq2, List.count_append]
      simp
    · rw [List.getElem?_set_ne e, i2 p hp, List.count_append]
      have : ¬ ((q : Int) = (p : Int)) := by omega
      simp [this]
end
end Go.Proofs.Ytoogobenjhmjjaa
