/- Several texts in one: TbPgPlain, TbPlain, TbPlain2, TbPlain3. -/
import Derived.Test.YtoogobenjhmjjaaTbAwake
namespace Go.Proofs.Ytoogobenjhmjjaa
open Go Go.RowKit

theorem may_mk {cap : Int} {ps : List Pg} (h0 : 0 ≤ cap) (h1 : cap ≤ 12) (h2 : (ps.length : Int) ≤ cap) (h3 : ∀ p ∈ ps, oddP p = false) : mayP cap ps = true := by
  have : ps.any oddP = false := by
    rw [List.any_eq_false]
    intro x hx
    simp [h3 x hx]
  simp [mayP, h0, h1, h2, this]

theorem may_mem {cap : Int} {ps : List Pg} (h : mayP cap ps = true) : ∀ p ∈ ps, oddP p = false := by
  intro p hp
  obtain ⟨k, hk, rfl⟩ := List.getElem_of_mem hp
  exact may_odd h k hk

theorem may_set {cap : Int} {ps : List Pg} (h : mayP cap ps = true) (k : Nat) {x : Pg} (hx : oddP x = false) : mayP cap (ps.set k x) = true := by
  obtain ⟨h0, h1, h2⟩ := may_len h
  refine may_mk h0 h1 (by simpa using h2) fun p hp => ?_
  rcases List.mem_or_eq_of_mem_set hp with hp | rfl
  · exact may_mem h p hp
  · exact hx

theorem may_app {cap : Int} {ps : List Pg} (h : mayP cap ps = true) (hl : (ps.length : Int) < cap) {x : Pg} (hx : oddP x = false) : mayP cap (ps ++ [x]) = true := by
  obtain ⟨h0, h1, h2⟩ := may_len h
  refine may_mk h0 h1 (by simp; omega) fun p hp => ?_
  rcases List.mem_append.1 hp with hp | hp
  · exact may_mem h p hp
  · simp at hp; subst hp; exact hx

theorem odd_of {p : Pg} (h1 : 1 ≤ p.r) (h2 : p.r ≤ 1000) : oddP p = false := by
  have a : ¬ p.r < 0 := by omega
  have b : ¬ 1000 < p.r := by omega
  have c : ¬ p.r = 0 := by omega
  simp [oddP, a, b, c]

theorem odd_zero {p : Pg} (h : oddP p = false) (hr : p.r = 0) : p = ⟨0, 0, 0, 0, 0⟩ := by
  obtain ⟨r, a, b, c, d⟩ := p
  simp only at hr
  subst hr
  simp [oddP, pgEq] at h
  obtain ⟨rfl, rfl, rfl, rfl⟩ := h
  rfl

theorem pgAt_get {ps : List Pg} {k : Nat} (hk : k < ps.length) : pgAt ps k = ps[k] := by simp [pgAt, hk]

theorem had_mk {cap : Int} {ps : List Pg} (hm : mayP cap ps = true) {k : Nat} (hk : k < ps.length) (hr : ps[k].r ≠ 0) : hadL cap ps k = 0 := by
  have h1 : ¬ (k : Int) < 0 := by omega
  have h2 : ¬ (ps.length : Int) ≤ k := by omega
  simp [hadL, hm, pgAt_get hk, hr, hk]

/-! ### Alloc -/
theorem allocL_may {cap : Int} {ps : List Pg} (hm : mayP cap ps = true) (x : Pg) : mayP cap (allocL cap ps x).2.2 = true := by
  unfold allocL
  rcases idxF_range freeP ps with h | ⟨j, hj, h⟩
  · rw [if_pos h]
    by_cases h2 : (ps.length : Int) = cap
    · rw [if_pos h2]; exact hm
    · rw [if_neg h2]
      exact may_app hm (by have := (may_len hm).2.2; omega) (odd_of (by simp) (by simp))
  · rw [if_neg (by omega)]
    exact may_set hm _ (odd_of (by simp) (by simp))

theorem allocL_err {cap : Int} {ps : List Pg} {x : Pg} (h : (allocL cap ps x).2.1 ≠ 0) : (allocL cap ps x) = (-1, 8, ps) := by
  unfold allocL at *
  split at h
  · split at h
    · rename_i h1 h2
      rw [if_pos h1, if_pos h2]
    · simp at h
  · simp at h

theorem allocX_may {cap : Int} {ps : List Pg} (hm : mayP cap ps = true) : mayP cap (allocX cap ps).2.2 = true := by
  rw [allocX, if_pos hm]; exact allocL_may hm _
theorem allocX_err {cap : Int} {ps : List Pg} (hm : mayP cap ps = true) (h : (allocX cap ps).2.1 ≠ 0) : (allocX cap ps).2.2 = ps := by
  rw [allocX, if_pos hm] at *; rw [allocL_err h]

/-! ### Share, Free -/
theorem shareL_may {cap : Int} {ps : List Pg} (hm : mayP cap ps = true) (p : Int) : mayP cap (shareL cap ps p).2 = true := by
  unfold shareL
  split
  · rename_i h
    obtain ⟨_, k, rfl, hk, _, h1, h2⟩ := had_ok h
    split
    · exact hm
    · exact may_set hm _ (odd_of (by simp; omega) (by simp; omega))
  · exact hm
theorem shareL_err {cap : Int} {ps : List Pg} {p : Int} (h : (shareL cap ps p).1 ≠ 0) : (shareL cap ps p).2 = ps := by
  unfold shareL at *
  split
  · rename_i h1
    rw [if_pos h1] at h
    split
    · rfl
    · rename_i h2
      rw [if_neg h2] at h
      exact absurd rfl h
  · rfl

theorem freeL_may {cap : Int} {ps : List Pg} (hm : mayP cap ps = true) {k : Nat} (h1 : 1 ≤ (pgAt ps k).r) (h2 : (pgAt ps k).r ≤ 1000) : mayP cap (freeL ps k) = true := by
  unfold freeL
  split
  · exact may_set hm _ (by decide)
  · exact may_set hm _ (odd_of (by simp; omega) (by simp; omega))

theorem freeX_may {cap : Int} {ps : List Pg} (hm : mayP cap ps = true) (p : Int) : mayP cap (freeX cap ps p).2 = true := by
  unfold freeX
  split
  · rename_i h
    obtain ⟨_, k, rfl, hk, _, h1, h2⟩ := had_ok h
    rw [Int.toNat_natCast]
    exact freeL_may hm h1 h2
  · exact hm
theorem freeX_err {cap : Int} {ps : List Pg} {p : Int} (h : (freeX cap ps p).1 ≠ 0) : (freeX cap ps p).2 = ps := by
  unfold freeX at *
  split
  · rename_i h1
    rw [if_pos h1] at h
    exact absurd rfl h
  · rfl

/-! ### Write -/
theorem wset_r (x : Pg) (i v : Int) : (wset x i v).r = x.r := by
  unfold wset
  split
  · rfl
  · split
    · rfl
    · split <;> rfl

theorem writeL_may {cap : Int} {ps : List Pg} (hm : mayP cap ps = true) (p i v : Int) : mayP cap (writeL cap ps p i v).2.2 = true := by
  unfold writeL
  split
  · rename_i h
    obtain ⟨_, k, rfl, hk, _, h1, h2⟩ := had_ok h
    split
    · split
      · rename_i h3
        exact may_set hm _ (odd_of (by rw [wset_r]; omega) (by rw [wset_r]; omega))
      · split
        · rw [Int.toNat_natCast]
          obtain ⟨k1, k2⟩ := alloc_keep cap ps (wset (pgAt ps k) i v) k hk (by omega)
          exact freeL_may (allocL_may hm _) (by rw [k2]; omega) (by rw [k2]; omega)
        · exact allocL_may hm _
    · exact hm
  · exact hm
theorem writeL_err {cap : Int} {ps : List Pg} {p i v : Int} (h : (writeL cap ps p i v).2.1 ≠ 0) : (writeL cap ps p i v).1 = -1 ∧ (writeL cap ps p i v).2.2 = ps := by
  unfold writeL at *
  split
  · rename_i h1
    rw [if_pos h1] at h
    split
    · rename_i h2
      rw [if_pos h2] at h
      split
      · rename_i h3
        rw [if_pos h3] at h
        exact absurd rfl h
      · rename_i h3
        rw [if_neg h3] at h
        split
        · rename_i h4
          rw [if_pos h4] at h
          exact absurd rfl h
        · rename_i h4
          rw [allocL_err h4]
          exact ⟨rfl, rfl⟩
    · exact ⟨rfl, rfl⟩
  · exact ⟨rfl, rfl⟩

/-! ### How many are had -/
theorem usedN_set {ps : List Pg} {k : Nat} (hk : k < ps.length) (x : Pg) : usedN (ps.set k x) + (if ps[k].r = 0 then 0 else 1) = usedN ps + (if x.r = 0 then 0 else 1) := by
  induction ps generalizing k with
  | nil => simp at hk
  | cons y ps ih =>
    have hc : ∀ (z : Pg) (l : List Pg), usedN (z :: l) = (if z.r = 0 then 0 else 1) + usedN l := by
      intro z l
      unfold usedN
      by_cases h : z.r = 0 <;> simp [freeP, h]
      omega
    match k with
    | 0 =>
      rw [List.set_cons_zero, hc, hc]
      simp only [List.getElem_cons_zero]
      omega
    | k + 1 =>
      rw [List.set_cons_succ, hc, hc]
      have := ih (by simpa using hk)
      simp only [List.getElem_cons_succ]
      omega

theorem usedN_all {ps : List Pg} (h : idxF freeP ps = -1) : usedN ps = ps.length := by
  have hall : ¬ ps.findIdx freeP < ps.length := by
    intro hh
    unfold idxF at h
    rw [if_pos hh] at h
    omega
  unfold usedN
  rw [List.filter_eq_self.2]
  intro x hx
  cases hc : freeP x with
  | false => rfl
  | true => exact absurd (List.findIdx_lt_length.2 ⟨_, hx, hc⟩) hall

theorem alloc_what {cap : Int} {ps : List Pg} {x : Pg} (h : (allocL cap ps x).2.1 = 0) :
    ∃ (a : Nat) (L : List Pg), allocL cap ps x = ((a : Int), 0, L) ∧ L[a]? = some { x with r := 1 } ∧ (∀ k, k < ps.length → k ≠ a → L[k]? = ps[k]?) ∧ (∀ k (hk : k < ps.length), ps[k].r ≠ 0 → k ≠ a) := by
  unfold allocL at h ⊢
  rcases idxF_range freeP ps with h5 | ⟨m, hm5, h5⟩
  · rw [if_pos h5] at h ⊢
    by_cases h6 : (ps.length : Int) = cap
    · rw [if_pos h6] at h; cases h
    · rw [if_neg h6]
      exact ⟨ps.length, _, rfl, by simp, fun k hk _ => by rw [List.getElem?_append_left hk], fun k hk _ => by omega⟩
  · rw [if_neg (by omega)]
    obtain ⟨_, hp, _⟩ := idxF_spec freeP ps m h5
    rw [h5, Int.toNat_natCast]
    refine ⟨m, _, rfl, by simp [hm5], fun k hk hne => by rw [List.getElem?_set_ne (Ne.symm hne)], ?_⟩
    rintro k hk hr rfl
    have : ps[k].r = 0 := by simpa [freeP] using hp
    exact hr this

/-- A write that is done, place by place. -/
theorem write_what {cap : Int} {ps : List Pg} {p i v : Int} (h : (writeL cap ps p i v).2.1 = 0) :
    ∃ (n m a : Nat) (qs : List Pg), p = n ∧ i = m ∧ m < 4 ∧ writeL cap ps p i v = ((a : Int), 0, qs) ∧ ∃ hn : n < ps.length, 1 ≤ ps[n].r ∧ n < qs.length ∧
      qs[a]? = some { wset ps[n] m v with r := 1 } ∧ (a = n ↔ ps[n].r = 1) ∧ (a ≠ n → qs[n]? = some { ps[n] with r := ps[n].r - 1 }) ∧ (∀ k, k < ps.length → k ≠ n → k ≠ a → qs[k]? = ps[k]?) := by
  unfold writeL at *
  split at h
  · rename_i h1
    obtain ⟨_, n, rfl, hn, _, hr1, hr2⟩ := had_ok h1
    rw [if_pos h1]
    split at h
    · rename_i h2
      rw [if_pos h2]
      obtain ⟨m, rfl⟩ := Int.eq_ofNat_of_zero_le h2.1
      have hj : m < 4 := by omega
      rw [pgAt_get hn] at *
      rw [Int.toNat_natCast] at *
      split at h
      · rename_i h3
        rw [if_pos h3]
        refine ⟨n, m, n, _, rfl, rfl, hj, rfl, hn, hr1, by simpa using hn, ?_, by simp [h3], fun h => absurd rfl h, fun k hk h1 _ => by rw [List.getElem?_set_ne (Ne.symm h1)]⟩
        have : wset ps[n] (m : Int) v = { wset ps[n] m v with r := 1 } := by
          have := wset_r ps[n] m v
          rw [h3] at this
          rw [← this]
        rw [List.getElem?_set_self hn, ← this]
      · rename_i h3
        rw [if_neg h3]
        split at h
        · rename_i h4
          rw [if_pos h4]
          obtain ⟨a, L, e1, e2, e3, e4⟩ := alloc_what h4
          have hna : n ≠ a := e4 n hn (by omega)
          have hLn := e3 n hn hna
          have hnL : n < L.length := by
            rw [List.getElem?_eq_getElem hn] at hLn
            exact (List.getElem?_eq_some_iff.1 hLn).1
          have hLn2 : L[n] = ps[n] := by
            rw [List.getElem?_eq_getElem hn, List.getElem?_eq_getElem hnL] at hLn
            exact Option.some.inj hLn
          have hfr : freeL L n = L.set n { ps[n] with r := ps[n].r - 1 } := by
            unfold freeL
            rw [pgAt_get hnL, hLn2, if_neg (by omega)]
          refine ⟨n, m, a, freeL L n, rfl, rfl, hj, by rw [e1], hn, hr1, by rw [hfr]; simpa using hnL, ?_, ?_, fun _ => ?_, fun k hk h1 h2 => ?_⟩
          · rw [hfr, List.getElem?_set_ne hna, e2]
          · exact ⟨fun e => absurd e.symm hna, fun e => absurd e h3⟩
          · rw [hfr, List.getElem?_set_self hnL]
          · rw [hfr, List.getElem?_set_ne (Ne.symm h1), e3 k hk h2]
        · rename_i h4
          exact absurd h h4
    · cases h
  · rename_i h1
    exact absurd h h1
end Go.Proofs.Ytoogobenjhmjjaa
namespace Go.Proofs.Ytoogobenjhmjjaa
open Go
set_option linter.unusedVariables false

/-- How often a page stands in tables. -/
def cnt (ts : List (List Int)) (p : Nat) : Nat := ts.flatten.count (p : Int)

structure MH (cap : Int) (ps : List Pg) (ts : List (List Int)) : Prop where
  may : mayP cap ps = true
  five : ts.length ≤ 5
  len : ∀ t ∈ ts, t.length = 0 ∨ t.length = 4
  pl : ∀ t ∈ ts, ∀ x ∈ t, x = -1 ∨ ∃ q : Nat, x = (q : Int) ∧ q < ps.length
  refs : ∀ p (hp : p < ps.length), ps[p].r = ((cnt ts p : Nat) : Int)

theorem okTb_iff {n : Nat} {t : List Int} : okTb n t = true ↔ (t.length = 0 ∨ t.length = 4) ∧ ∀ x ∈ t, x = -1 ∨ ∃ q : Nat, x = (q : Int) ∧ q < n := by
  unfold okTb okPl
  simp only [Bool.and_eq_true, Bool.or_eq_true, beq_iff_eq, List.all_eq_true, decide_eq_true_eq]
  constructor
  · rintro ⟨h1, h2⟩
    refine ⟨h1, fun x hx => ?_⟩
    rcases h2 x hx with h | h
    · exact .inl h
    · exact .inr ⟨x.toNat, by omega, by omega⟩
  · rintro ⟨h1, h2⟩
    refine ⟨h1, fun x hx => ?_⟩
    rcases h2 x hx with h | ⟨q, rfl, h⟩
    · exact .inl h
    · exact .inr (by omega)

theorem mayH_iff {cap : Int} {ps : List Pg} {ts : List (List Int)} : mayH cap ps ts = true ↔ MH cap ps ts := by
  unfold mayH
  simp only [Bool.and_eq_true, decide_eq_true_eq, List.all_eq_true]
  constructor
  · rintro ⟨h1, h2, h3, h4⟩
    refine ⟨h1, h2, fun t ht => (okTb_iff.1 (h3 t ht)).1, fun t ht => (okTb_iff.1 (h3 t ht)).2, fun p hp => ?_⟩
    have := eqR_at p (by rw [cnts_len]; exact hp) hp h4
    unfold isRefs at this
    rw [beq_iff_eq, cnts_at _ _ _ hp] at this
    exact this.symm
  · rintro ⟨h1, h2, h3, h4, h5⟩
    refine ⟨h1, h2, fun t ht => okTb_iff.2 ⟨h3 t ht, h4 t ht⟩, eqR_all (cnts_len _ _) fun p a b => ?_⟩
    unfold isRefs
    rw [beq_iff_eq, cnts_at _ _ _ b]
    exact (h5 p b).symm

/-! ### Counts -/
theorem count_set {t : List Int} {j : Nat} (hj : j < t.length) (y x : Int) : (t.set j y).count x + (if t[j] = x then 1 else 0) = t.count x + (if y = x then 1 else 0) := by
  induction t generalizing j with
  | nil => simp at hj
  | cons a t ih =>
    match j with
    | 0 =>
      simp only [List.set_cons_zero, List.count_cons, List.getElem_cons_zero, beq_iff_eq]
      omega
    | j + 1 =>
      have := ih (j := j) (by simpa using hj)
      simp only [List.set_cons_succ, List.count_cons, List.getElem_cons_succ]
      omega
theorem cnt_cons (t : List Int) (ts : List (List Int)) (p : Nat) : cnt (t :: ts) p = t.count (p : Int) + cnt ts p := by
  unfold cnt; rw [List.flatten_cons, List.count_append]
theorem cnt_snoc (t : List Int) (ts : List (List Int)) (p : Nat) : cnt (ts ++ [t]) p = cnt ts p + t.count (p : Int) := by
  unfold cnt; rw [List.flatten_append, List.count_append]; simp
theorem cnt_set {ts : List (List Int)} {k : Nat} (hk : k < ts.length) (t : List Int) (p : Nat) : cnt (ts.set k t) p + ts[k].count (p : Int) = cnt ts p + t.count (p : Int) := by
  induction ts generalizing k with
  | nil => simp at hk
  | cons a ts ih =>
    match k with
    | 0 =>
      simp only [List.set_cons_zero, cnt_cons, List.getElem_cons_zero]
      omega
    | k + 1 =>
      have := ih (k := k) (by simpa using hk)
      simp only [List.set_cons_succ, cnt_cons, List.getElem_cons_succ]
      omega
theorem cnt_put {ts : List (List Int)} {k j : Nat} (hk : k < ts.length) (hj : j < ts[k].length) (y : Int) (p : Nat) :
    cnt (ts.set k (ts[k].set j y)) p + (if ts[k][j] = (p : Int) then 1 else 0) = cnt ts p + (if y = (p : Int) then 1 else 0) := by
  have h1 := cnt_set hk (ts[k].set j y) p
  have h2 := count_set hj y (p : Int)
  omega
theorem cnt_pos {ts : List (List Int)} {k j p : Nat} (hk : k < ts.length) (hj : j < ts[k].length) (h : ts[k][j] = (p : Int)) : 1 ≤ cnt ts p := by
  unfold cnt
  have : (p : Int) ∈ ts.flatten := List.mem_flatten.2 ⟨ts[k], List.getElem_mem hk, h ▸ List.getElem_mem hj⟩
  exact List.count_pos_iff.2 this
/-- A page that stands at two places is counted twice. -/
theorem cnt_two {ts : List (List Int)} {k j k' j' p : Nat} (hk : k < ts.length) (hj : j < ts[k].length) (hk' : k' < ts.length) (hj' : j' < ts[k'].length) (h : ts[k][j] = (p : Int)) (h' : ts[k'][j'] = (p : Int)) (hne : ¬ (k = k' ∧ j = j')) : 2 ≤ cnt ts p := by
  have h1 := cnt_put hk hj (-1) p
  rw [if_pos h, if_neg (by omega)] at h1
  have hk2 : k' < (ts.set k (ts[k].set j (-1))).length := by simpa using hk'
  have e : (ts.set k (ts[k].set j (-1)))[k']? = some (if k = k' then ts[k].set j (-1) else ts[k']) := by
    by_cases e : k = k'
    · subst e; rw [if_pos rfl, List.getElem?_set_self hk]
    · rw [if_neg e, List.getElem?_set_ne e, List.getElem?_eq_getElem hk']
  have h2 : 1 ≤ cnt (ts.set k (ts[k].set j (-1))) p := by
    unfold cnt
    refine List.count_pos_iff.2 (List.mem_flatten.2 ⟨_, List.mem_of_getElem? e, ?_⟩)
    by_cases e : k = k'
    · subst e
      rw [if_pos rfl]
      have : j ≠ j' := fun e => hne ⟨rfl, e⟩
      refine List.mem_of_getElem? (i := j') ?_
      rw [List.getElem?_set_ne this, List.getElem?_eq_getElem hj', h']
    · rw [if_neg e, ← h']
      exact List.getElem_mem hj'
  omega
theorem count_le4 {t : List Int} (h : t.length = 0 ∨ t.length = 4) (x : Int) : t.count x ≤ 4 := by
  have := List.count_le_length (a := x) (l := t)
  omega
theorem cnt_le {ts : List (List Int)} (h : ∀ t ∈ ts, t.length = 0 ∨ t.length = 4) (p : Nat) : cnt ts p ≤ 4 * ts.length := by
  induction ts with
  | nil => simp [cnt]
  | cons a ts ih =>
    have h1 := ih fun t ht => h t (by simp [ht])
    have h2 := count_le4 (h a (by simp)) (p : Int)
    rw [cnt_cons, List.length_cons]
    omega

section
variable {cap : Int} {ps qs : List Pg} {ts : List (List Int)} {k j p : Nat}
theorem MH.le20 (h : MH cap ps ts) (p : Nat) : cnt ts p ≤ 20 := by
  have := cnt_le h.len p
  have := h.five
  omega
theorem MH.four (h : MH cap ps ts) (hk : k < ts.length) (hne : ts[k].length ≠ 0) : ts[k].length = 4 := by
  rcases h.len _ (List.getElem_mem hk) with e | e
  · exact absurd e hne
  · exact e
theorem MH.place (h : MH cap ps ts) (hk : k < ts.length) (hj : j < ts[k].length) : ts[k][j] = -1 ∨ ∃ q : Nat, ts[k][j] = (q : Int) ∧ ∃ hq : q < ps.length, 1 ≤ ps[q].r ∧ ps[q].r ≤ 20 := by
  rcases h.pl _ (List.getElem_mem hk) _ (List.getElem_mem hj) with e | ⟨q, e, hq⟩
  · exact .inl e
  · refine .inr ⟨q, e, hq, ?_⟩
    have h1 := cnt_pos hk hj e
    have h2 := h.le20 q
    have h3 := h.refs q hq
    omega
/-- No place has a page that is not there. -/
theorem MH.no (h : MH cap ps ts) (hp : ps.length ≤ p) : cnt ts p = 0 := by
  unfold cnt
  rw [List.count_eq_zero]
  intro hm
  obtain ⟨t, ht, hx⟩ := List.mem_flatten.1 hm
  rcases h.pl t ht _ hx with e | ⟨q, e, hq⟩ <;> omega

/-! ### Share and Free of many -/
/-- A page that is had n times less. -/
def less (x : Pg) (n : Nat) : Pg := if x.r - n = 0 then ⟨0, 0, 0, 0, 0⟩ else { x with r := x.r - n }
theorem less_zero {x : Pg} (h : oddP x = false) : less x 0 = x := by
  unfold less
  by_cases e : x.r = 0
  · rw [if_pos (by omega), odd_zero h e]
  · rw [if_neg (by omega)]; simp
theorem less_succ {x : Pg} {n : Nat} (h : (n : Int) < x.r) : less x (n + 1) = if (less x n).r - 1 = 0 then ⟨0, 0, 0, 0, 0⟩ else { less x n with r := (less x n).r - 1 } := by
  have h1 : less x n = { x with r := x.r - n } := by unfold less; rw [if_neg (by omega)]
  rw [h1]
  unfold less
  simp only
  rw [show x.r - ((n + 1 : Nat) : Int) = x.r - (n : Int) - 1 from by omega]

theorem share_all (hm : mayP cap ps = true) (xs : List Int) (h : ∀ x ∈ xs, ∃ q : Nat, x = (q : Int) ∧ ∃ hq : q < ps.length, 1 ≤ ps[q].r ∧ ps[q].r + xs.length ≤ 1000) :
    mayP cap (each_shareL cap ps xs) = true ∧ ∀ p (hp : p < ps.length), (each_shareL cap ps xs)[p]? = some { ps[p] with r := ps[p].r + ((xs.count (p : Int) : Nat) : Int) } := by
  induction xs generalizing ps with
  | nil =>
    refine ⟨hm, fun p hp => ?_⟩
    show ps[p]? = _
    simp [List.getElem?_eq_getElem hp]
  | cons x xs ih =>
    obtain ⟨q, rfl, hq, h1, h2⟩ := h _ (List.mem_cons_self ..)
    simp only [List.length_cons] at h2 h
    have hs : shareL cap ps (q : Int) = (0, ps.set q { ps[q] with r := ps[q].r + 1 }) := by
      unfold shareL
      rw [if_pos (had_mk hm hq (by omega)), pgAt_get hq, if_neg (by omega), Int.toNat_natCast]
    have hm2 : mayP cap (ps.set q { ps[q] with r := ps[q].r + 1 }) = true := by have := shareL_may hm (q : Int); rwa [hs] at this
    obtain ⟨i1, i2⟩ := ih hm2 (fun x hx => by
      obtain ⟨q', rfl, hq', h3, h4⟩ := h x (List.mem_cons_of_mem _ hx)
      refine ⟨q', rfl, by simpa using hq', ?_⟩
      rw [List.getElem_set]
      split
      · simp only; rename_i e; subst e; omega
      · omega)
    have hE : each_shareL cap ps ((q : Int) :: xs) = each_shareL cap (ps.set q { ps[q] with r := ps[q].r + 1 }) xs := by
      show each_shareL cap (shareL cap ps (q : Int)).2 xs = _
      rw [hs]
    rw [hE]
    refine ⟨i1, fun p hp => ?_⟩
    rw [i2 p (by simpa using hp), List.count_cons]
    congr 1
    rw [List.getElem_set]
    by_cases e : q = p
    · subst e; simp; omega
    · rw [if_neg e]
      have : ¬ ((q : Int) = (p : Int)) := by omega
      simp [this]

theorem snoc_ind {α : Type} {P : List α → Prop} (h0 : P []) (h1 : ∀ xs x, P xs → P (xs ++ [x])) (xs : List α) : P xs := by
  rw [← List.reverse_reverse xs]
  induction xs.reverse with
  | nil => exact h0
  | cons a l ih => rw [List.reverse_cons]; exact h1 _ _ ih

theorem free_all (hm : mayP cap ps = true) (xs : List Int) (h : ∀ x ∈ xs, ∃ q : Nat, x = (q : Int) ∧ q < ps.length) (hc : ∀ p (hp : p < ps.length), ((xs.count (p : Int) : Nat) : Int) ≤ ps[p].r) :
    mayP cap (each_freeL cap ps xs) = true ∧ ∀ p (hp : p < ps.length), (each_freeL cap ps xs)[p]? = some (less ps[p] (xs.count (p : Int))) := by
  induction xs using snoc_ind with
  | h0 =>
    refine ⟨hm, fun p hp => ?_⟩
    show ps[p]? = _
    rw [List.getElem?_eq_getElem hp, List.count_nil, less_zero (may_odd hm p hp)]
  | h1 xs x ih =>
    obtain ⟨i1, i2⟩ := ih (fun y hy => h y (by simp [hy])) (fun p hp => by
      have := hc p hp
      rw [List.count_append] at this
      omega)
    obtain ⟨q, rfl, hq⟩ := h x (by simp)
    have hcq := hc q hq
    rw [List.count_append] at hcq
    simp only [List.count_singleton_self] at hcq
    rw [each_freeL_snoc]
    have hl := each_freeL_len cap xs ps
    have hq2 : q < (each_freeL cap ps xs).length := by omega
    have i3 := i2 q hq
    rw [List.getElem?_eq_getElem hq2] at i3
    have i4 := Option.some.inj i3
    have hr : (each_freeL cap ps xs)[q].r = ps[q].r - ((xs.count (q : Int) : Nat) : Int) := by
      rw [i4]; unfold less; rw [if_neg (by omega)]
    have hf : freeX cap (each_freeL cap ps xs) (q : Int) = (0, (each_freeL cap ps xs).set q (less ps[q] (xs.count (q : Int) + 1))) := by
      unfold freeX
      rw [if_pos (had_mk i1 hq2 (by omega)), Int.toNat_natCast]
      unfold freeL
      rw [pgAt_get hq2, less_succ (by omega), ← i4]
      split <;> rfl
    rw [hf]
    refine ⟨by have := freeX_may i1 (q : Int); rwa [hf] at this, fun p hp => ?_⟩
    by_cases e : q = p
    · subst e
      rw [List.getElem?_set_self hq2, List.count_append]
      simp
    · rw [List.getElem?_set_ne e, i2 p hp, List.count_append]
      have : ¬ ((q : Int) = (p : Int)) := by omega
      simp [this]
end
end Go.Proofs.Ytoogobenjhmjjaa
namespace Go.Proofs.Ytoogobenjhmjjaa
open Go
set_option linter.unusedVariables false

section
variable {cap : Int} {ps qs : List Pg} {ts : List (List Int)} {k j p : Nat} {t a : Int}

theorem why_zero (h : MH cap ps ts) (hk : k < ts.length) (hne : ts[k].length ≠ 0) (h0 : 0 ≤ a) (h1 : a < 16) : whyH cap ps ts (k : Int) a = 0 := by
  refine wh0 (mayH_iff.2 h) ?_
  unfold tabAt
  rw [Int.toNat_natCast, List.getD_eq_getElem?_getD, List.getElem?_eq_getElem hk]
  simp only [Option.getD_some, not_or]
  omega

/-- The pages of a table, with the places left out. -/
def pgs (t : List Int) : List Int := (prs t).map (·.2)
theorem pgs_count (t : List Int) (p : Nat) : (pgs t).count (p : Int) = t.count (p : Int) := prs_count t p
theorem pgs_mem {t : List Int} {x : Int} (h : x ∈ pgs t) : x ∈ t ∧ x ≠ -1 := by
  obtain ⟨y, hy, rfl⟩ := List.mem_map.1 h
  obtain ⟨h1, h2, h3⟩ := prsK_mem t t.length (Nat.le_refl _) y hy
  refine ⟨?_, h3⟩
  rw [List.getD_eq_getElem?_getD, List.getElem?_eq_getElem h1] at h2
  rw [← h2]
  exact List.getElem_mem h1
theorem pgs_len (t : List Int) : (pgs t).length ≤ t.length := by
  unfold pgs; rw [List.length_map]; exact prsK_len t _

theorem MH.share (h : MH cap ps ts) (hk : k < ts.length) :
    mayP cap (each_shareL cap ps (pgs ts[k])) = true ∧ ∀ p (hp : p < ps.length), (each_shareL cap ps (pgs ts[k]))[p]? = some { ps[p] with r := ps[p].r + ((ts[k].count (p : Int) : Nat) : Int) } := by
  obtain ⟨h1, h2⟩ := share_all h.may (pgs ts[k]) (fun x hx => by
    obtain ⟨hm, hx1⟩ := pgs_mem hx
    obtain ⟨j, hj, rfl⟩ := List.getElem_of_mem hm
    have hl := pgs_len ts[k]
    have hl4 := h.len _ (List.getElem_mem hk)
    rcases h.place hk hj with e | ⟨q, e, hq, r1, r2⟩
    · exact absurd e hx1
    · exact ⟨q, e, hq, r1, by omega⟩)
  exact ⟨h1, fun p hp => by rw [h2 p hp, pgs_count]⟩

theorem MH.free (h : MH cap ps ts) (hk : k < ts.length) :
    mayP cap (each_freeL cap ps (pgs ts[k])) = true ∧ ∀ p (hp : p < ps.length), (each_freeL cap ps (pgs ts[k]))[p]? = some (less ps[p] (ts[k].count (p : Int))) := by
  obtain ⟨h1, h2⟩ := free_all h.may (pgs ts[k]) (fun x hx => by
    obtain ⟨hm, hx1⟩ := pgs_mem hx
    rcases h.pl _ (List.getElem_mem hk) x hm with e | e
    · exact absurd e hx1
    · exact e) (fun p hp => by
    have h3 := cnt_set hk [] p
    have h4 := h.refs p hp
    rw [pgs_count]
    simp at h3
    omega)
  exact ⟨h1, fun p hp => by rw [h2 p hp, pgs_count]⟩

theorem MH.fork (h : MH cap ps ts) (hk : k < ts.length) (h5 : ts.length ≠ 5) : MH cap (each_shareL cap ps (pgs ts[k])) (ts ++ [ts[k]]) := by
  obtain ⟨h1, h2⟩ := h.share hk
  have hl := each_shareL_len cap (pgs ts[k]) ps
  refine ⟨h1, by have := h.five; simp; omega, fun t ht => ?_, fun t ht x hx => ?_, fun p hp => ?_⟩
  · rcases List.mem_append.1 ht with ht | ht
    · exact h.len t ht
    · simp at ht; subst ht; exact h.len _ (List.getElem_mem hk)
  · rw [hl]
    rcases List.mem_append.1 ht with ht | ht
    · exact h.pl t ht x hx
    · simp at ht; subst ht; exact h.pl _ (List.getElem_mem hk) x hx
  · have hp' : p < ps.length := by omega
    have h3 := h2 p hp'
    rw [List.getElem?_eq_getElem hp] at h3
    rw [Option.some.inj h3, cnt_snoc]
    have := h.refs p hp'
    simp only
    omega
theorem less_r {x : Pg} {n : Nat} : (less x n).r = x.r - n := by
  unfold less
  split
  · simp only; omega
  · rfl
theorem MH.drop (h : MH cap ps ts) (hk : k < ts.length) : MH cap (each_freeL cap ps (pgs ts[k])) (ts.set k []) := by
  obtain ⟨h1, h2⟩ := h.free hk
  have hl := each_freeL_len cap (pgs ts[k]) ps
  refine ⟨h1, by have := h.five; simpa using this, fun t ht => ?_, fun t ht x hx => ?_, fun p hp => ?_⟩
  · rcases List.mem_or_eq_of_mem_set ht with ht | rfl
    · exact h.len t ht
    · exact .inl rfl
  · rw [hl]
    rcases List.mem_or_eq_of_mem_set ht with ht | rfl
    · exact h.pl t ht x hx
    · simp at hx
  · have hp' : p < ps.length := by omega
    have h3 := h2 p hp'
    rw [List.getElem?_eq_getElem hp] at h3
    rw [Option.some.inj h3, less_r]
    have h4 := cnt_set hk [] p
    have := h.refs p hp'
    simp at h4
    omega

/-! ### Write -/
/-- What a write that is done comes to: the page that the place had, or none; the page that it has now. -/
def oldPg (ps : List Pg) (x : Int) : Pg := if x = -1 then ⟨0, 0, 0, 0, 0⟩ else pgAt ps x
theorem wset_with (x : Pg) (i v n : Int) : wset { x with r := n } i v = { wset x i v with r := n } := by
  unfold wset
  split
  · rfl
  · split
    · rfl
    · split <;> rfl
structure Wrote (cap : Int) (ps : List Pg) (x : Int) (m : Nat) (v : Int) (a : Nat) (qs : List Pg) : Prop where
  may : mayP cap qs = true
  new : qs[a]? = some { wset (oldPg ps x) m v with r := 1 }
  same : ∀ p, p < ps.length → p ≠ a → (p : Int) ≠ x → qs[p]? = ps[p]?
  old : ((a : Int) = x ∧ ∃ h : a < ps.length, ps[a].r = 1) ∨ ((a : Int) ≠ x ∧ (∀ h : a < ps.length, ps[a].r = 0) ∧ ∀ q : Nat, x = (q : Int) → ∃ h : q < ps.length, qs[q]? = some { ps[q] with r := ps[q].r - 1 })
  long : qs.length = ps.length ∨ (a = ps.length ∧ qs.length = ps.length + 1)

theorem alloc_long {cap : Int} {ps : List Pg} {x : Pg} {a : Nat} {L : List Pg} (h : allocL cap ps x = ((a : Int), 0, L)) : (L.length = ps.length ∨ (a = ps.length ∧ L.length = ps.length + 1)) ∧ (∀ h : a < ps.length, ps[a].r = 0) ∧ a < L.length := by
  unfold allocL at h
  rcases idxF_range freeP ps with h5 | ⟨m, hm5, h5⟩
  · rw [if_pos h5] at h
    split at h
    · simp at h
    · injection h with h1 h2
      injection h2 with _ h2
      obtain rfl : ps.length = a := by omega
      subst h2
      exact ⟨.inr ⟨rfl, by simp⟩, fun h => absurd h (by omega), by simp⟩
  · rw [if_neg (by omega), h5] at h
    injection h with h1 h2
    injection h2 with _ h2
    obtain rfl : m = a := by omega
    subst h2
    obtain ⟨_, hp, _⟩ := idxF_spec freeP ps m h5
    exact ⟨.inl (by simp), fun h => by simpa [freeP] using hp, by simpa using hm5⟩

theorem write_in {cap : Int} {ps : List Pg} {n m : Nat} {v : Int} (hm : mayP cap ps = true) (hn : n < ps.length) (h4 : m < 4) (hr : ps[n].r = 1) : writeL cap ps (n : Int) (m : Int) v = ((n : Int), 0, ps.set n (wset ps[n] m v)) := by
  unfold writeL
  rw [if_pos (had_mk hm hn (by omega)), if_pos (by omega), pgAt_get hn, if_pos hr, Int.toNat_natCast]

/-- A page that was made for the write. -/
theorem wrote_made {m : Nat} {v a2 : Int} {ps1 ps2 : List Pg} {a1 : Int} (hm : mayP cap ps = true) (h4 : m < 4) (h1 : allocX cap ps = (a1, 0, ps1)) (h2 : writeL cap ps1 a1 (m : Int) v = (a2, 0, ps2)) :
    ∃ a : Nat, a2 = a ∧ Wrote cap ps (-1) m v a ps2 := by
  unfold allocX at h1
  rw [if_pos hm] at h1
  obtain ⟨a, L, e1, e2, e3, e4⟩ := alloc_what (cap := cap) (ps := ps) (x := ⟨0, 0, 0, 0, 0⟩) (by rw [h1])
  rw [h1] at e1
  injection e1 with e5 e6
  injection e6 with _ e6
  subst e5 e6
  obtain ⟨l1, l2, l3⟩ := alloc_long h1
  have hma : mayP cap ps1 = true := by have := allocL_may hm ⟨0, 0, 0, 0, 0⟩; rwa [h1] at this
  have e2' := e2
  rw [List.getElem?_eq_getElem l3] at e2'
  have e2' := Option.some.inj e2'
  rw [write_in hma l3 h4 (by rw [e2'])] at h2
  injection h2 with h2 h3
  injection h3 with _ h3
  subst h2 h3
  refine ⟨a, rfl, ?_, ?_, ?_, ?_, ?_⟩
  · have := writeL_may hma (a : Int) (m : Int) v
    rwa [write_in hma l3 h4 (by rw [e2'])] at this
  · rw [List.getElem?_set_self l3, e2', wset_with]; rfl
  · intro p hp hne _
    rw [List.getElem?_set_ne (Ne.symm hne), e3 p hp hne]
  · refine .inr ⟨by omega, l2, fun q hq => absurd hq (by omega)⟩
  · simpa using l1

/-- A page that was there already. -/
theorem wrote_had {n m : Nat} {v a2 : Int} {ps2 : List Pg} (hm : mayP cap ps = true) (h4 : m < 4) (h2 : writeL cap ps (n : Int) (m : Int) v = (a2, 0, ps2)) :
    ∃ a : Nat, a2 = a ∧ Wrote cap ps (n : Int) m v a ps2 := by
  have hmq := writeL_may hm (n : Int) (m : Int) v
  rw [h2] at hmq
  obtain ⟨n', m', a, qs, e1, e2, _, e4, hn, hr, hnq, e5, e6, e7, e8⟩ := write_what (cap := cap) (ps := ps) (p := (n : Int)) (i := (m : Int)) (v := v) (by rw [h2])
  obtain rfl : n = n' := by omega
  obtain rfl : m = m' := by omega
  rw [h2] at e4
  injection e4 with e4 e9
  injection e9 with _ e9
  subst e4 e9
  have hold : oldPg ps (n : Int) = ps[n] := by unfold oldPg; rw [if_neg (by omega), pgAt_get hn]
  refine ⟨a, rfl, hmq, by rw [hold]; exact e5, fun p hp h1 h2 => e8 p hp (by omega) h1, ?_, ?_⟩
  · by_cases e : a = n
    · subst e
      exact .inl ⟨rfl, hn, e6.1 rfl⟩
    · refine .inr ⟨by omega, ?_, fun q hq => ?_⟩
      · intro ha
        unfold writeL at h2
        rw [if_pos (had_mk hm hn (by omega)), if_pos (by omega), pgAt_get hn, if_neg (fun h => e (e6.2 h))] at h2
        split at h2
        · obtain ⟨b, L, g1, _⟩ := alloc_what (cap := cap) (ps := ps) (x := wset ps[n] m v) ‹_›
          rw [g1] at h2
          injection h2 with h2 _
          obtain rfl : b = a := by simp only at h2; omega
          exact (alloc_long g1).2.1 ha
        · rename_i hh
          rw [h2] at hh
          exact absurd rfl hh
      · obtain rfl : n = q := by omega
        exact ⟨hn, e7 e⟩
  · unfold writeL at h2
    rw [if_pos (had_mk hm hn (by omega)), if_pos (by omega), pgAt_get hn] at h2
    split at h2
    · injection h2 with _ h2
      injection h2 with _ h2
      subst h2
      exact .inl (by simp)
    · split at h2
      · obtain ⟨b, L, g1, _⟩ := alloc_what (cap := cap) (ps := ps) (x := wset ps[n] m v) ‹_›
        rw [g1] at h2
        injection h2 with h2 h3
        injection h3 with _ h3
        obtain rfl : b = a := by simp only at h2; omega
        have := (alloc_long g1).1
        subst h3
        unfold freeL
        split <;> simpa using this
      · rename_i hh
        rw [h2] at hh
        exact absurd rfl hh

/-- The heap behind a write. -/
theorem MH.wrote {m a : Nat} {v : Int} (h : MH cap ps ts) (hk : k < ts.length) (hj : j < ts[k].length) (hw : Wrote cap ps ts[k][j] m v a qs) : MH cap qs (ts.set k (ts[k].set j (a : Int))) := by
  have ha : a < qs.length := (List.getElem?_eq_some_iff.1 hw.new).1
  have hle : ps.length ≤ qs.length := by have := hw.long; omega
  refine ⟨hw.may, by have := h.five; simpa using this, fun t ht => ?_, fun t ht x hx => ?_, fun p hp => ?_⟩
  · rcases List.mem_or_eq_of_mem_set ht with ht | rfl
    · exact h.len t ht
    · rw [List.length_set]; exact h.len _ (List.getElem_mem hk)
  · have old : ∀ t ∈ ts, ∀ x ∈ t, x = -1 ∨ ∃ q : Nat, x = (q : Int) ∧ q < qs.length := fun t ht x hx => by
      rcases h.pl t ht x hx with e | ⟨q, e, hq⟩
      · exact .inl e
      · exact .inr ⟨q, e, by omega⟩
    rcases List.mem_or_eq_of_mem_set ht with ht | rfl
    · exact old t ht x hx
    · rcases List.mem_or_eq_of_mem_set hx with hx | rfl
      · exact old _ (List.getElem_mem hk) x hx
      · exact .inr ⟨a, rfl, ha⟩
  · have hc := cnt_put hk hj (a : Int) p
    by_cases e : p = a
    · subst e
      have h1 := hw.new
      rw [List.getElem?_eq_getElem hp] at h1
      rw [Option.some.inj h1]
      simp only
      rw [if_pos rfl] at hc
      rcases hw.old with ⟨e1, hp', hr⟩ | ⟨e1, hz, _⟩
      · rw [if_pos e1.symm] at hc
        have := h.refs p hp'
        omega
      · rw [if_neg (Ne.symm e1)] at hc
        have : cnt ts p = 0 := by
          by_cases hp' : p < ps.length
          · have := h.refs p hp'
            have := hz hp'
            omega
          · exact h.no (by omega)
        omega
    · rw [if_neg (show ¬ ((a : Int) = (p : Int)) by omega)] at hc
      have hp' : p < ps.length := by have := hw.long; omega
      have hrf := h.refs p hp'
      by_cases e2 : ts[k][j] = (p : Int)
      · rw [if_pos e2] at hc
        rcases hw.old with ⟨e1, _⟩ | ⟨_, _, ho⟩
        · omega
        · obtain ⟨hq, ho⟩ := ho p e2
          rw [List.getElem?_eq_getElem hp] at ho
          rw [Option.some.inj ho]
          simp only
          omega
      · rw [if_neg e2] at hc
        have := hw.same p hp' e (fun h => e2 h.symm)
        rw [List.getElem?_eq_getElem hp, List.getElem?_eq_getElem hp'] at this
        rw [Option.some.inj this]
        omega

/-- What Write comes to. -/
theorem write_ok {v : Int} (h : (writeH cap ps ts t a v).1 = 0) :
    ∃ (k n : Nat) (hk : k < ts.length) (hj : n / 4 < ts[k].length) (x : Nat) (qs : List Pg), t = k ∧ a = n ∧ n < 16 ∧ MH cap ps ts ∧ ts[k].length = 4 ∧ Wrote cap ps (ts[k][n / 4]) (n % 4) v x qs ∧ writeH cap ps ts t a v = (0, qs, ts.set k (ts[k].set (n / 4) (x : Int))) := by
  by_cases h0 : whyH cap ps ts t a = 0
  · obtain ⟨hmy, k, rfl, hk, htab, hne, ha0, ha1⟩ := why_ok h0
    have hM := mayH_iff.1 hmy
    have h4 := hM.four hk hne
    obtain ⟨n, rfl⟩ : ∃ n : Nat, a = (n : Int) := ⟨a.toNat, by omega⟩
    have hn4 : n / 4 < ts[k].length := by omega
    have hpl : plAt ts (k : Int) (n : Int) = ts[k][n / 4] := by unfold plAt; rw [htab, Int.toNat_natCast, List.getD_eq_getElem?_getD, List.getElem?_eq_getElem hn4]; rfl
    have h4' : ((n : Int) % 4) = ((n % 4 : Nat) : Int) := by omega
    have e0 : writeH cap ps ts (k : Int) (n : Int) v = if (firstH cap ps ts[k][n / 4]).2.1 = 0 then
      (if (writeL cap (firstH cap ps ts[k][n / 4]).2.2 (firstH cap ps ts[k][n / 4]).1 ((n % 4 : Nat) : Int) v).2.1 = 0 then
        (0, (writeL cap (firstH cap ps ts[k][n / 4]).2.2 (firstH cap ps ts[k][n / 4]).1 ((n % 4 : Nat) : Int) v).2.2, ts.set k (ts[k].set (n / 4) (writeL cap (firstH cap ps ts[k][n / 4]).2.2 (firstH cap ps ts[k][n / 4]).1 ((n % 4 : Nat) : Int) v).1))
       else ((writeL cap (firstH cap ps ts[k][n / 4]).2.2 (firstH cap ps ts[k][n / 4]).1 ((n % 4 : Nat) : Int) v).2.1, ps, ts)) else ((firstH cap ps ts[k][n / 4]).2.1, ps, ts) := by
      unfold writeH
      rw [if_pos h0, hpl, h4', htab, Int.toNat_natCast, Int.toNat_natCast]
    rw [e0] at h
    split at h
    · rename_i h1
      rw [if_pos h1] at e0
      split at h
      · rename_i h2
        rw [if_pos h2] at e0
        have hW : ∃ x : Nat, (writeL cap (firstH cap ps ts[k][n / 4]).2.2 (firstH cap ps ts[k][n / 4]).1 ((n % 4 : Nat) : Int) v).1 = x ∧ Wrote cap ps (ts[k][n / 4]) (n % 4) v x (writeL cap (firstH cap ps ts[k][n / 4]).2.2 (firstH cap ps ts[k][n / 4]).1 ((n % 4 : Nat) : Int) v).2.2 := by
          rcases hM.place hk hn4 with e | ⟨q, e, hq, r1, r2⟩
          · rw [e] at h1 h2 ⊢
            unfold firstH at h1 h2 ⊢
            rw [if_pos rfl] at h1 h2 ⊢
            exact wrote_made hM.may (by omega) (Prod.ext rfl (Prod.ext h1 rfl)) (Prod.ext rfl (Prod.ext h2 rfl))
          · rw [e] at h1 h2 ⊢
            unfold firstH at h1 h2 ⊢
            rw [if_neg (by omega)] at h1 h2 ⊢
            exact wrote_had hM.may (by omega) (Prod.ext rfl (Prod.ext h2 rfl))
        obtain ⟨x, hx, hW⟩ := hW
        exact ⟨k, n, hk, hn4, x, _, rfl, rfl, by omega, hM, h4, hW, by rw [e0, hx]⟩
      · rename_i h2
        exact absurd h h2
    · rename_i h1
      exact absurd h h1
  · unfold writeH at h
    rw [if_neg h0] at h
    exact absurd h h0
theorem write_err {v : Int} (h : (writeH cap ps ts t a v).1 ≠ 0) : (writeH cap ps ts t a v).2 = (ps, ts) := by
  unfold writeH at *
  split at h
  · rename_i h0
    rw [if_pos h0]
    split at h
    · rename_i h1
      rw [if_pos h1]
      split at h
      · exact absurd rfl h
      · rename_i h2
        rw [if_neg h2]
    · rename_i h1
      rw [if_neg h1]
  · rename_i h0
    rw [if_neg h0]
end
end Go.Proofs.Ytoogobenjhmjjaa
namespace Go.Proofs.Ytoogobenjhmjjaa
open Go
set_option linter.unusedVariables false

section
variable {cap : Int} {ps qs : List Pg} {ts : List (List Int)} {k j p : Nat} {t a : Int}

theorem tabAt_out {t : Int} (h : (ts.length : Int) ≤ t) : (tabAt ts t).length = 0 := by
  unfold tabAt
  rw [List.getD_eq_getElem?_getD, List.getElem?_eq_none (by omega)]
  rfl
theorem tabAt_in (hk : k < ts.length) : tabAt ts (k : Int) = ts[k] := by
  unfold tabAt
  rw [Int.toNat_natCast, List.getD_eq_getElem?_getD, List.getElem?_eq_getElem hk]; rfl
/-- Is there no such table, or word? -/
def outW (ts : List (List Int)) (t a : Int) : Prop := t < 0 ∨ (tabAt ts t).length = 0 ∨ a < 0 ∨ 16 ≤ a
theorem why_tab (h : MH cap ps ts) : (outW ts t a → whyH cap ps ts t a = 11) ∧ (¬ outW ts t a → whyH cap ps ts t a = 0) := by
  unfold outW
  refine ⟨fun h2 => wh11 (mayH_iff.2 h) ?_, fun h2 => wh0 (mayH_iff.2 h) ?_⟩
  · rcases h2 with e | e | e | e
    · exact .inl e
    · exact .inr (.inr (.inl e))
    · exact .inr (.inr (.inr (.inl e)))
    · exact .inr (.inr (.inr (.inr e)))
  · intro h3
    refine h2 ?_
    rcases h3 with e | e | e | e | e
    · exact .inl e
    · exact .inr (.inl (tabAt_out e))
    · exact .inr (.inl e)
    · exact .inr (.inr (.inl e))
    · exact .inr (.inr (.inr e))
theorem wget_zero (i : Nat) : wget ⟨0, 0, 0, 0, 0⟩ i = 0 := by unfold wget; split <;> rfl
theorem read_tab (h : MH cap ps ts) : (outW ts t a → readH cap ps ts t a = (0, 11)) ∧ (¬ outW ts t a → readH cap ps ts t a = (wget (oldPg ps (plAt ts t a)) (a.toNat % 4), 0)) := by
  refine ⟨fun h2 => ?_, fun h2 => ?_⟩
  · unfold readH
    rw [(why_tab h).1 h2, if_neg (by decide)]
  · unfold readH oldPg
    rw [(why_tab h).2 h2, if_pos rfl]
    split
    · rw [wget_zero]
    · rfl
/-- A word that is there: where. -/
theorem in_word (h : MH cap ps ts) (h2 : ¬ outW ts t a) : ∃ (k n : Nat) (hk : k < ts.length) (hj : n / 4 < ts[k].length), t = k ∧ a = n ∧ n < 16 ∧ plAt ts t a = ts[k][n / 4] := by
  unfold outW at h2
  simp only [not_or] at h2
  obtain ⟨h3, h4, h5, h6⟩ := h2
  obtain ⟨k, rfl⟩ := Int.eq_ofNat_of_zero_le (Int.not_lt.1 h3)
  obtain ⟨n, rfl⟩ := Int.eq_ofNat_of_zero_le (Int.not_lt.1 h5)
  have hk : k < ts.length := by
    rcases Nat.lt_or_ge k ts.length with e | e
    · exact e
    · exact absurd (tabAt_out (by omega)) h4
  rw [tabAt_in hk] at h4
  have h4' := h.four hk h4
  have hj : n / 4 < ts[k].length := by omega
  refine ⟨k, n, hk, hj, rfl, rfl, by omega, ?_⟩
  unfold plAt
  rw [tabAt_in hk, Int.toNat_natCast, List.getD_eq_getElem?_getD, List.getElem?_eq_getElem hj]; rfl

theorem wget_r (x : Pg) (n : Int) (i : Nat) : wget { x with r := n } i = wget x i := by unfold wget; split <;> rfl
theorem wget_wset (x : Pg) {m i : Nat} (v : Int) (hm : m < 4) (hi : i < 4) : wget (wset x m v) i = if i = m then v else wget x i := by
  obtain rfl | rfl | rfl | rfl : m = 0 ∨ m = 1 ∨ m = 2 ∨ m = 3 := by omega
  all_goals obtain rfl | rfl | rfl | rfl : i = 0 ∨ i = 1 ∨ i = 2 ∨ i = 3 := by omega
  all_goals rfl
theorem oldPg_in (hp : p < ps.length) : oldPg ps (p : Int) = ps[p] := by
  unfold oldPg; rw [if_neg (by omega), pgAt_get hp]

/-! ### Behind a write -/
theorem read_write {v u b : Int} (h : (writeH cap ps ts t a v).1 = 0) :
    (u = t ∧ b = a → readH cap (writeH cap ps ts t a v).2.1 (writeH cap ps ts t a v).2.2 u b = (v, 0)) ∧
    (¬ (u = t ∧ b = a) → readH cap (writeH cap ps ts t a v).2.1 (writeH cap ps ts t a v).2.2 u b = readH cap ps ts u b) ∧
    MH cap (writeH cap ps ts t a v).2.1 (writeH cap ps ts t a v).2.2 := by
  obtain ⟨k, n, hk, hj, x, qs, rfl, rfl, hn, hM, h4, hW, e⟩ := write_ok h
  rw [e]
  have hM2 := hM.wrote hk hj hW
  have hx : x < qs.length := (List.getElem?_eq_some_iff.1 hW.new).1
  have hnew := hW.new
  rw [List.getElem?_eq_getElem hx] at hnew
  have hnew := Option.some.inj hnew
  dsimp only
  have hgo : ∀ (k' n' : Nat) (hk' : k' < ts.length) (hj' : n' / 4 < ts[k'].length), plAt (ts.set k (ts[k].set (n / 4) (x : Int))) (k' : Int) (n' : Int) = if k' = k ∧ n' / 4 = n / 4 then (x : Int) else ts[k'][n' / 4] := by
    intro k' n' hk' hj'
    unfold plAt
    rw [tabAt_in (by simpa using hk'), Int.toNat_natCast]
    by_cases e1 : k' = k
    · subst e1
      rw [List.getElem_set_self, List.getD_eq_getElem?_getD]
      by_cases e2 : n' / 4 = n / 4
      · rw [if_pos ⟨rfl, e2⟩, e2, List.getElem?_set_self hj]; rfl
      · rw [if_neg (fun h => e2 h.2), List.getElem?_set_ne (Ne.symm e2), List.getElem?_eq_getElem hj']; rfl
    · rw [if_neg (fun h => e1 h.1), List.getElem_set_ne (Ne.symm e1), List.getD_eq_getElem?_getD, List.getElem?_eq_getElem hj']; rfl
  have hlen : ∀ u : Int, (tabAt (ts.set k (ts[k].set (n / 4) (x : Int))) u).length = (tabAt ts u).length := by
    intro u
    unfold tabAt
    rw [List.getD_eq_getElem?_getD, List.getD_eq_getElem?_getD]
    by_cases e1 : k = u.toNat
    · rw [← e1, List.getElem?_set_self hk, List.getElem?_eq_getElem hk]; simp
    · rw [List.getElem?_set_ne e1]
  have hout : ∀ u b : Int, outW (ts.set k (ts[k].set (n / 4) (x : Int))) u b ↔ outW ts u b := by
    intro u b
    unfold outW
    rw [hlen]
  have hin : ¬ outW ts (k : Int) (n : Int) := by
    unfold outW
    rw [tabAt_in hk]
    simp only [not_or]
    omega
  refine ⟨?_, ?_, hM2⟩
  · rintro ⟨rfl, rfl⟩
    rw [(read_tab hM2).2 (fun h => hin ((hout _ _).1 h)), hgo k n hk hj, if_pos ⟨rfl, rfl⟩, oldPg_in hx, hnew, wget_r, Int.toNat_natCast, wget_wset _ _ (by omega) (by omega), if_pos rfl]
  · intro hne
    by_cases ho : outW ts u b
    · rw [(read_tab hM2).1 ((hout _ _).2 ho), (read_tab hM).1 ho]
    · rw [(read_tab hM2).2 (fun h => ho ((hout _ _).1 h)), (read_tab hM).2 ho]
      obtain ⟨k', n', hk', hj', rfl, rfl, hn', hpl⟩ := in_word hM ho
      rw [hgo k' n' hk' hj', hpl, Int.toNat_natCast]
      by_cases e1 : k' = k ∧ n' / 4 = n / 4
      · rw [if_pos e1]
        obtain ⟨e1, e2⟩ := e1
        subst e1
        have e3 : n' % 4 ≠ n % 4 := fun e3 => hne ⟨rfl, by omega⟩
        rw [oldPg_in hx, hnew, wget_r, wget_wset _ _ (by omega) (by omega), if_neg e3]
        congr 3
        simp only [e2]
      · rw [if_neg e1]
        congr 1
        rcases hM.place hk' hj' with e2 | ⟨q, e2, hq, r1, r2⟩
        · rw [e2]; rfl
        · rw [e2, oldPg_in hq]
          have hqx : q ≠ x := by
            rintro rfl
            rcases hW.old with ⟨e3, _, hr⟩ | ⟨_, hz, _⟩
            · have := cnt_two hk hj hk' hj' e3.symm e2 (fun h => e1 ⟨h.1.symm, h.2.symm⟩)
              have := hM.refs q hq
              omega
            · have := hz hq
              omega
          by_cases e4 : ts[k][n / 4] = (q : Int)
          · rcases hW.old with ⟨e3, _⟩ | ⟨_, _, ho⟩
            · omega
            · obtain ⟨_, ho⟩ := ho q e4
              have hq2 : q < qs.length := (List.getElem?_eq_some_iff.1 ho).1
              rw [List.getElem?_eq_getElem hq2] at ho
              rw [oldPg_in hq2, Option.some.inj ho, wget_r]
          · have ho := hW.same q hq hqx (fun h => e4 h.symm)
            rw [List.getElem?_eq_getElem hq] at ho
            have hq2 : q < qs.length := (List.getElem?_eq_some_iff.1 ho).1
            rw [List.getElem?_eq_getElem hq2] at ho
            rw [oldPg_in hq2, Option.some.inj ho]

/-! ### Behind a fork -/
theorem getD_at (hk : k < ts.length) : ts.getD k [] = ts[k] := by rw [List.getD_eq_getElem?_getD, List.getElem?_eq_getElem hk]; rfl
theorem fork_ok (h : (forkH cap ps ts t).2.1 = 0) :
    ∃ (k : Nat) (hk : k < ts.length), t = k ∧ MH cap ps ts ∧ ts[k].length = 4 ∧ ts.length ≠ 5 ∧ forkH cap ps ts t = ((ts.length : Int), 0, each_shareL cap ps (pgs ts[k]), ts ++ [ts[k]]) := by
  unfold forkH at h ⊢
  split at h
  · rename_i h0
    rw [if_pos h0]
    obtain ⟨hmy, k, rfl, hk, htab, hne, ha0, ha1⟩ := why_ok h0
    have hM := mayH_iff.1 hmy
    rw [Int.toNat_natCast] at *
    unfold forkS at h ⊢
    split at h
    · simp at h
    · rename_i h5
      rw [if_neg h5, getD_at hk]
      exact ⟨k, hk, rfl, hM, hM.four hk hne, h5, rfl⟩
  · rename_i h0
    exact absurd h h0
theorem fork_err (h : (forkH cap ps ts t).2.1 ≠ 0) : (forkH cap ps ts t).2.2 = (ps, ts) := by
  unfold forkH forkS at *
  split at h
  · rename_i h0
    rw [if_pos h0]
    split at h
    · rename_i h5
      rw [if_pos h5]
    · simp at h
  · rename_i h0
    rw [if_neg h0]
theorem oldPg_share (hM : MH cap ps ts) (hk : k < ts.length) (x : Int) (i : Nat) : wget (oldPg (each_shareL cap ps (pgs ts[k])) x) i = wget (oldPg ps x) i := by
  unfold oldPg
  split
  · rfl
  · unfold pgAt
    have hl := each_shareL_len cap (pgs ts[k]) ps
    rw [List.getD_eq_getElem?_getD, List.getD_eq_getElem?_getD]
    rcases Nat.lt_or_ge x.toNat ps.length with e | e
    · rw [(hM.share hk).2 _ e, List.getElem?_eq_getElem e]
      exact wget_r _ _ _
    · rw [List.getElem?_eq_none (by omega), List.getElem?_eq_none e]
theorem read_fork {u b : Int} (h : (forkH cap ps ts t).2.1 = 0) :
    (forkH cap ps ts t).1 = (ts.length : Int) ∧ MH cap (forkH cap ps ts t).2.2.1 (forkH cap ps ts t).2.2.2 ∧
    (u ≠ (ts.length : Int) → readH cap (forkH cap ps ts t).2.2.1 (forkH cap ps ts t).2.2.2 u b = readH cap ps ts u b) ∧
    readH cap (forkH cap ps ts t).2.2.1 (forkH cap ps ts t).2.2.2 (ts.length : Int) b = readH cap (forkH cap ps ts t).2.2.1 (forkH cap ps ts t).2.2.2 t b := by
  obtain ⟨k, hk, rfl, hM, h4, h5, e⟩ := fork_ok h
  rw [e]
  dsimp only
  have hM2 := hM.fork hk h5
  have hold : ∀ u : Int, u < 0 ∨ u ≠ (ts.length : Int) → (u < 0 ∨ tabAt (ts ++ [ts[k]]) u = tabAt ts u) := by
    intro u hu
    rcases Int.lt_or_le u 0 with e | e
    · exact .inl e
    · refine .inr ?_
      unfold tabAt
      rw [List.getD_eq_getElem?_getD, List.getD_eq_getElem?_getD]
      rcases Nat.lt_or_ge u.toNat ts.length with e1 | e1
      · rw [List.getElem?_append_left e1]
      · rw [List.getElem?_eq_none (by simp; omega), List.getElem?_eq_none e1]
  have hnew : tabAt (ts ++ [ts[k]]) (ts.length : Int) = ts[k] := by
    unfold tabAt
    rw [Int.toNat_natCast, List.getD_eq_getElem?_getD]; simp
  have heq : ∀ (ts1 : List (List Int)) (qs1 : List Pg) (u u1 : Int), MH cap qs1 ts1 → (∀ x i, wget (oldPg (each_shareL cap ps (pgs ts[k])) x) i = wget (oldPg qs1 x) i) → (u < 0 ↔ u1 < 0) → (u < 0 ∨ tabAt (ts ++ [ts[k]]) u = tabAt ts1 u1) →
      readH cap (each_shareL cap ps (pgs ts[k])) (ts ++ [ts[k]]) u b = readH cap qs1 ts1 u1 b := by
    intro ts1 qs1 u u1 hM1 hw hs ht
    by_cases ho : outW (ts ++ [ts[k]]) u b
    · rw [(read_tab hM2).1 ho, (read_tab hM1).1]
      unfold outW at ho ⊢
      rcases ht with e | e
      · exact .inl (hs.1 e)
      · rw [← e]
        rcases ho with e1 | e1
        · exact .inl (hs.1 e1)
        · exact .inr e1
    · have ho1 : ¬ outW ts1 u1 b := by
        intro ho1
        refine ho ?_
        unfold outW at ho1 ⊢
        rcases ht with e | e
        · exact .inl e
        · rw [e]
          rcases ho1 with e1 | e1
          · exact .inl (hs.2 e1)
          · exact .inr e1
      rw [(read_tab hM2).2 ho, (read_tab hM1).2 ho1, hw]
      have hpl : plAt (ts ++ [ts[k]]) u b = plAt ts1 u1 b := by
        unfold plAt
        rcases ht with e | e
        · unfold outW at ho; exact absurd (.inl e) ho
        · rw [e]
      rw [hpl]
  refine ⟨rfl, hM2, fun hu => ?_, ?_⟩
  · exact heq ts ps u u hM (fun x i => oldPg_share hM hk x i) Iff.rfl (hold u (.inr hu))
  · refine heq _ _ _ _ hM2 (fun _ _ => rfl) (by omega) (.inr ?_)
    rw [hnew]
    rcases hold (k : Int) (.inr (by omega)) with e | e
    · omega
    · rw [e, tabAt_in hk]

/-! ### Behind a drop -/
theorem drop_ok (h : (dropH cap ps ts t).2.1 = 0) :
    ∃ (k : Nat) (hk : k < ts.length), t = k ∧ MH cap ps ts ∧ ts[k].length = 4 ∧ dropH cap ps ts t = ((k : Int), 0, each_freeL cap ps (pgs ts[k]), ts.set k []) := by
  unfold dropH at h ⊢
  split at h
  · rename_i h0
    rw [if_pos h0]
    obtain ⟨hmy, k, rfl, hk, htab, hne, ha0, ha1⟩ := why_ok h0
    have hM := mayH_iff.1 hmy
    refine ⟨k, hk, rfl, hM, hM.four hk hne, ?_⟩
    unfold dropS
    rw [Int.toNat_natCast, getD_at hk]
    rfl
  · rename_i h0
    exact absurd h h0
theorem drop_err (h : (dropH cap ps ts t).2.1 ≠ 0) : (dropH cap ps ts t).2.2 = (ps, ts) := by
  unfold dropH at *
  split at h
  · exact absurd rfl h
  · rename_i h0
    rw [if_neg h0]
theorem drop_at (hM : MH cap ps ts) (hk : k < ts.length) : ((dropH cap ps ts (k : Int)).2.1 = 0 ↔ 0 < ts[k].length) := by
  constructor
  · intro h
    obtain ⟨k', hk', e, _, h4, _⟩ := drop_ok h
    obtain rfl : k = k' := by omega
    omega
  · intro h
    unfold dropH
    rw [if_pos (why_zero hM hk (by omega) (by omega) (by omega))]
theorem read_drop {u b : Int} (h : (dropH cap ps ts t).2.1 = 0) :
    MH cap (dropH cap ps ts t).2.2.1 (dropH cap ps ts t).2.2.2 ∧
    (u ≠ t → readH cap (dropH cap ps ts t).2.2.1 (dropH cap ps ts t).2.2.2 u b = readH cap ps ts u b) ∧
    (u = t → readH cap (dropH cap ps ts t).2.2.1 (dropH cap ps ts t).2.2.2 u b = (0, 11)) := by
  obtain ⟨k, hk, rfl, hM, h4, e⟩ := drop_ok h
  rw [e]
  dsimp only
  have hM2 := hM.drop hk
  have hlf := each_freeL_len cap (pgs ts[k]) ps
  refine ⟨hM2, fun hu => ?_, ?_⟩
  · by_cases hn : u < 0
    · rw [(read_tab hM2).1 (.inl hn), (read_tab hM).1 (.inl hn)]
    · obtain ⟨k', rfl⟩ := Int.eq_ofNat_of_zero_le (Int.not_lt.1 hn)
      have hne : k ≠ k' := by omega
      have htab : tabAt (ts.set k []) (k' : Int) = tabAt ts (k' : Int) := by
        unfold tabAt
        rw [Int.toNat_natCast, List.getD_eq_getElem?_getD, List.getD_eq_getElem?_getD, List.getElem?_set_ne hne]
      have hout : outW (ts.set k []) (k' : Int) b ↔ outW ts (k' : Int) b := by unfold outW; rw [htab]
      by_cases ho : outW ts (k' : Int) b
      · rw [(read_tab hM2).1 (hout.2 ho), (read_tab hM).1 ho]
      · rw [(read_tab hM2).2 (fun h => ho (hout.1 h)), (read_tab hM).2 ho]
        have hpl : plAt (ts.set k []) (k' : Int) b = plAt ts (k' : Int) b := by unfold plAt; rw [htab]
        obtain ⟨k2, n, hk2, hj, e1, rfl, hn16, hpl2⟩ := in_word hM ho
        obtain rfl : k' = k2 := by omega
        rw [hpl, hpl2]
        congr 1
        rcases hM.place hk2 hj with e2 | ⟨q, e2, hq, r1, r2⟩
        · rw [e2]; rfl
        · have hq2 : q < (each_freeL cap ps (pgs ts[k])).length := by omega
          have hk3 : k' < (ts.set k []).length := by simpa using hk2
          have e3 : (ts.set k [])[k'] = ts[k'] := List.getElem_set_ne hne hk3
          have hpos : 1 ≤ cnt (ts.set k []) q := cnt_pos hk3 (j := n / 4) (by rw [e3]; exact hj) (by simp only [e3]; exact e2)
          have hr := hM2.refs q hq2
          have hf := (hM.free hk).2 q hq
          rw [List.getElem?_eq_getElem hq2] at hf
          have hf := Option.some.inj hf
          rw [e2, oldPg_in hq2, oldPg_in hq, hf]
          rw [hf, less_r] at hr
          unfold less
          rw [if_neg (by omega), wget_r]
  · rintro rfl
    refine (read_tab hM2).1 (.inr (.inl ?_))
    rw [tabAt_in (by simpa using hk)]
    simp

/-! ### How many pages are had -/
theorem usedN_mono : ∀ {ps qs : List Pg}, ps.length = qs.length → (∀ p (h1 : p < ps.length) (h2 : p < qs.length), ps[p].r = 0 → qs[p].r = 0) → usedN qs ≤ usedN ps
  | [], [], _, _ => Nat.le_refl _
  | x :: ps, y :: qs, hl, h => by
    have ih := usedN_mono (ps := ps) (qs := qs) (by simpa using hl) fun p h1 h2 => h (p + 1) (by simpa using h1) (by simpa using h2)
    have h0 := h 0 (by simp) (by simp)
    simp only [List.getElem_cons_zero] at h0
    have hc : ∀ (z : Pg) (l : List Pg), usedN (z :: l) = (if z.r = 0 then 0 else 1) + usedN l := by
      intro z l
      unfold usedN
      by_cases h : z.r = 0 <;> simp [freeP, h]
      omega
    rw [hc, hc]
    by_cases e : x.r = 0
    · rw [if_pos e, if_pos (h0 e)]; omega
    · rw [if_neg e]; split <;> omega
  | [], _ :: _, hl, _ => by simp at hl
  | _ :: _, [], hl, _ => by simp at hl
theorem used_fork (hM : MH cap ps ts) (hk : k < ts.length) : usedN (each_shareL cap ps (pgs ts[k])) = usedN ps := by
  have hl := each_shareL_len cap (pgs ts[k]) ps
  have h2 := (hM.share hk).2
  refine Nat.le_antisymm (usedN_mono hl.symm fun p h1 h3 h0 => ?_) (usedN_mono hl fun p h3 h1 h0 => ?_)
  · have e := h2 p h1
    rw [List.getElem?_eq_getElem h3] at e
    rw [Option.some.inj e]
    have := cnt_set hk [] p
    have := hM.refs p h1
    simp at *
    omega
  · have e := h2 p h1
    rw [List.getElem?_eq_getElem h3] at e
    rw [Option.some.inj e] at h0
    have := hM.refs p h1
    simp only at h0
    omega
theorem used_drop (hM : MH cap ps ts) (hk : k < ts.length) : usedN (each_freeL cap ps (pgs ts[k])) ≤ usedN ps := by
  have hl := each_freeL_len cap (pgs ts[k]) ps
  have h2 := (hM.free hk).2
  refine usedN_mono hl.symm fun p h1 h3 h0 => ?_
  have e := h2 p h1
  rw [List.getElem?_eq_getElem h3] at e
  rw [Option.some.inj e, less_r]
  have := cnt_set hk [] p
  have := hM.refs p h1
  simp at *
  omega
theorem used_write {x : Int} {m n : Nat} {v : Int} (hW : Wrote cap ps x m v n qs) (hr : ∀ q : Nat, x = (q : Int) → ∃ h : q < ps.length, 1 ≤ ps[q].r) : usedN qs ≤ usedN ps + 1 := by
  have hx : n < qs.length := (List.getElem?_eq_some_iff.1 hW.new).1
  have h1 := usedN_set hx ⟨0, 0, 0, 0, 0⟩
  simp only [if_true] at h1
  have key : ∀ ps' : List Pg, ps'.length = qs.length → (∀ p (h : p < ps'.length), p < ps.length → p ≠ n → ps'[p]? = ps[p]?) → (ps.length ≤ ps'.length) → (∀ p, ps.length ≤ p → p < ps'.length → p = n) → usedN (qs.set n ⟨0, 0, 0, 0, 0⟩) ≤ usedN ps' := by
    intro ps' hl hs hle hn
    refine usedN_mono (by simpa using hl) fun p g1 g2 g0 => ?_
    rw [List.getElem_set]
    split
    · rfl
    · rename_i e
      have hp : p < ps.length := by
        rcases Nat.lt_or_ge p ps.length with e1 | e1
        · exact e1
        · exact absurd (hn p e1 g1).symm e
      have e1 := hs p g1 hp (Ne.symm e)
      rw [List.getElem?_eq_getElem g1, List.getElem?_eq_getElem hp] at e1
      rw [Option.some.inj e1] at g0
      have hpx : (p : Int) ≠ x := by
        intro e2
        obtain ⟨_, h⟩ := hr p e2.symm
        omega
      have e3 := hW.same p hp (Ne.symm e) hpx
      rw [List.getElem?_eq_getElem (by simpa using g2), List.getElem?_eq_getElem hp] at e3
      rw [Option.some.inj e3, g0]
  rcases hW.long with e | ⟨e1, e2⟩
  · have := key ps e.symm (fun _ _ _ _ => rfl) (Nat.le_refl _) (fun p h h2 => by omega)
    split at h1 <;> omega
  · have h3 := key (ps ++ [⟨0, 0, 0, 0, 0⟩]) (by simp [e2]) (fun p _ hp _ => by rw [List.getElem?_append_left hp]) (by simp) (fun p h h2 => by simp at h2; omega)
    rw [usedN_snoc] at h3
    simp only [if_true] at h3
    split at h1 <;> omega
/-- No table has a page: no page is had. -/
theorem used_none (hM : MH cap ps ts) (h : ∀ t ∈ ts, t = []) : usedN ps = 0 := by
  unfold usedN
  rw [List.length_eq_zero_iff, List.filter_eq_nil_iff]
  intro x hx
  obtain ⟨p, hp, rfl⟩ := List.getElem_of_mem hx
  have := hM.refs p hp
  have h0 : cnt ts p = 0 := by
    unfold cnt
    rw [List.count_eq_zero]
    intro hm
    obtain ⟨t, ht, hx⟩ := List.mem_flatten.1 hm
    rw [h t ht] at hx
    simp at hx
  simp [freeP]
  omega

theorem same_refl (cap : Int) (ps : List Pg) (ts : List (List Int)) : sameH cap ps ts cap ps ts = true := by
  have h1 : ∀ xs : List Pg, eqL pgEq xs xs = true := fun xs => eqL_all rfl fun j h => by simp [pgEq]
  have h2 : ∀ xs : List Int, tabEq xs xs = true := fun xs => eqL_all rfl fun j h => by simp [intEq]
  unfold sameH sameP
  rw [h1, eqR_all rfl fun j _ _ => h2 _]
  simp
theorem write_mh {v e : Int} {qs : List Pg} {us : List (List Int)} (h : MH cap ps ts) (hw : writeH cap ps ts t a v = (e, qs, us)) : MH cap qs us := by
  by_cases h0 : e = 0
  · have := (read_write (cap := cap) (ps := ps) (ts := ts) (t := t) (a := a) (v := v) (u := 0) (b := 0) (by rw [hw]; exact h0)).2.2
    rwa [hw] at this
  · have := write_err (cap := cap) (ps := ps) (ts := ts) (t := t) (a := a) (v := v) (by rw [hw]; exact h0)
    rw [hw] at this
    simp only [Prod.mk.injEq] at this
    obtain ⟨rfl, rfl⟩ := this
    exact h
theorem MH.lens (h : MH cap ps ts) : ps.length ≤ 900 ∧ ts.length ≤ 1000 ∧ ∀ t ∈ ts, t.length ≤ 1000 := by
  refine ⟨by have := may_len h.may; omega, by have := h.five; omega, fun t ht => ?_⟩
  rcases h.len t ht with e | e <;> omega
theorem stays_write {v e : Int} {qs : List Pg} {us : List (List Int)} (h : MH cap ps ts) (hw : writeH cap ps ts t a v = (e, qs, us)) :
    MH cap qs us ∧ (e ≠ 0 → sameH cap qs us cap ps ts = true) ∧ usedL cap qs ≤ usedL cap ps + 1 := by
  have hM := write_mh h hw
  refine ⟨hM, fun h0 => ?_, ?_⟩
  · have := write_err (cap := cap) (ps := ps) (ts := ts) (t := t) (a := a) (v := v) (by rw [hw]; exact h0)
    rw [hw] at this
    simp only [Prod.mk.injEq] at this
    obtain ⟨rfl, rfl⟩ := this
    exact same_refl _ _ _
  · unfold usedL
    rw [if_pos hM.may, if_pos h.may]
    by_cases h0 : e = 0
    · obtain ⟨k, n, hk, hj, x, qs', rfl, rfl, hn, _, h4, hW, e1⟩ := write_ok (cap := cap) (ps := ps) (ts := ts) (t := t) (a := a) (v := v) (by rw [hw]; exact h0)
      rw [hw] at e1
      injection e1 with _ e1
      injection e1 with e1 _
      subst e1
      have := used_write hW (fun q hq => by
        rcases h.place hk hj with e2 | ⟨q', e2, hq', r1, _⟩
        · omega
        · obtain rfl : q = q' := by omega
          exact ⟨hq', r1⟩)
      omega
    · have := write_err (cap := cap) (ps := ps) (ts := ts) (t := t) (a := a) (v := v) (by rw [hw]; exact h0)
      rw [hw] at this
      simp only [Prod.mk.injEq] at this
      rw [this.1]; omega
theorem stays_fork {n e : Int} {qs : List Pg} {us : List (List Int)} (h : MH cap ps ts) (hw : forkH cap ps ts t = (n, e, qs, us)) :
    MH cap qs us ∧ (e ≠ 0 → sameH cap qs us cap ps ts = true) ∧ usedL cap ps = usedL cap qs := by
  by_cases h0 : e = 0
  · obtain ⟨k, hk, rfl, _, h4, h5, e1⟩ := fork_ok (cap := cap) (ps := ps) (ts := ts) (t := t) (by rw [hw]; exact h0)
    rw [hw] at e1
    simp only [Prod.mk.injEq] at e1
    obtain ⟨_, _, rfl, rfl⟩ := e1
    have hM := h.fork hk h5
    refine ⟨hM, fun g => absurd h0 g, ?_⟩
    unfold usedL
    rw [if_pos hM.may, if_pos h.may, used_fork h hk]
  · have := fork_err (cap := cap) (ps := ps) (ts := ts) (t := t) (by rw [hw]; exact h0)
    rw [hw] at this
    simp only [Prod.mk.injEq] at this
    obtain ⟨rfl, rfl⟩ := this
    exact ⟨h, fun _ => same_refl _ _ _, rfl⟩
theorem stays_drop {n e : Int} {qs : List Pg} {us : List (List Int)} (h : MH cap ps ts) (hw : dropH cap ps ts t = (n, e, qs, us)) :
    MH cap qs us ∧ (e ≠ 0 → sameH cap qs us cap ps ts = true) ∧ usedL cap qs ≤ usedL cap ps := by
  by_cases h0 : e = 0
  · obtain ⟨k, hk, rfl, _, h4, e1⟩ := drop_ok (cap := cap) (ps := ps) (ts := ts) (t := t) (by rw [hw]; exact h0)
    rw [hw] at e1
    simp only [Prod.mk.injEq] at e1
    obtain ⟨_, _, rfl, rfl⟩ := e1
    have hM := h.drop hk
    refine ⟨hM, fun g => absurd h0 g, ?_⟩
    unfold usedL
    rw [if_pos hM.may, if_pos h.may]
    have := used_drop h hk
    omega
  · have := drop_err (cap := cap) (ps := ps) (ts := ts) (t := t) (by rw [hw]; exact h0)
    rw [hw] at this
    simp only [Prod.mk.injEq] at this
    obtain ⟨rfl, rfl⟩ := this
    exact ⟨h, fun _ => same_refl _ _ _, Int.le_refl _⟩
end
end Go.Proofs.Ytoogobenjhmjjaa
