/- What holds of the machine whatever is picked: plain. -/
import Derived.Test.YtngimbfojccikaaStSpecm
import Derived.Test.YtngimbfojccikaaStmTellsE
namespace Go.Proofs.Ytngimbfojccikaa
set_option linter.unusedSimpArgs false
open Go
set_option linter.unusedVariables false

structure AcOk (words : Nat) (a : Ac) : Prop where
  d0 : 0 ≤ a.d
  d3 : a.d < 3
  a0 : 0 ≤ a.at_
  a1 : a.at_ < (words : Int)
structure PlanOk (words : Nat) (mx : Int) (pl : List (List (List Ac))) : Prop where
  w1 : 1 ≤ words
  w8 : words ≤ 8
  m0 : 0 ≤ mx
  m1 : mx ≤ 1000
  p1 : 1 ≤ pl.length
  p4 : pl.length ≤ 4
  tx4 : ∀ txs ∈ pl, txs.length ≤ 4
  ac6 : ∀ txs ∈ pl, ∀ l ∈ txs, l.length ≤ 6
  acs : ∀ txs ∈ pl, ∀ l ∈ txs, ∀ a ∈ l, AcOk words a

/-- One thread. -/
structure GoodT (words : Nat) (txs : List (List Ac)) (t : Tx) : Prop where
  s0 : 0 ≤ t.st
  s5 : t.st ≤ 5
  x0 : 0 ≤ t.tx
  x1 : t.tx ≤ (txs.length : Int)
  x2 : t.st ≠ 0 → t.tx < (txs.length : Int)
  y0 : 0 ≤ t.try_
  y2 : t.st = 0 → t.try_ ≤ 2
  y3 : t.try_ ≤ 3
  c0 : 0 ≤ t.pc
  c1 : t.pc ≤ ((txs.getD t.tx.toNat []).length : Int)
  rl : (t.R.length : Int) ≤ t.pc
  wl : (t.W.length : Int) ≤ t.pc
  ws : t.W.Pairwise (fun p q => p.at_ < q.at_)
  wa : ∀ p ∈ t.W, 0 ≤ p.at_ ∧ p.at_ < (words : Int)
  ra : ∀ p ∈ t.R, 0 ≤ p.at_ ∧ p.at_ < (words : Int)
  i0 : 0 ≤ t.i
  i2 : t.st = 2 → t.i < (t.W.length : Int)
  i4 : t.st = 4 → t.i ≤ (t.R.length : Int)
  i5 : t.st = 5 → t.i < (t.W.length : Int)
  w0 : 2 ≤ t.st → 0 < t.W.length

structure Good (words : Nat) (pl : List (List (List Ac))) (m : Mm) : Prop where
  W : m.W.length = words
  L : m.L.length = words
  may : mayL m.now m.mx m.L = true
  T : m.T.length = pl.length
  ts : ∀ (k : Nat) t txs, m.T[k]? = some t → pl[k]? = some txs → GoodT words txs t
  h : (m.H.length : Int) ≤ m.time

/-! ### writeP -/
theorem writeP_cases (W : List Pr) (a v : Int) : (∃ (i : Nat) (p : Pr), W[i]? = some p ∧ p.at_ = a ∧ writeP W a v = W.set i ⟨p.at_, v⟩) ∨
    ∃ i : Nat, i ≤ W.length ∧ (∀ j q, W[j]? = some q → j < i → q.at_ < a) ∧ (∀ p, W[i]? = some p → a < p.at_) ∧ writeP W a v = W.take i ++ ⟨a, v⟩ :: W.drop i := by
  generalize hk : W.findIdx (fun p => decide (a ≤ p.at_)) = k
  have hbelow : ∀ j q, W[j]? = some q → j < k → q.at_ < a := by
    intro j q hj hjk
    obtain ⟨h1, h2⟩ := List.getElem?_eq_some_iff.1 hj
    have := List.not_of_lt_findIdx (p := fun p : Pr => decide (a ≤ p.at_)) (xs := W) (i := j) (by rw [hk]; exact hjk)
    rw [h2] at this
    simpa using this
  cases hp : W[k]? with
  | none =>
    refine .inr ⟨W.length, Nat.le_refl _, fun j q hj _ => hbelow j q hj ?_, fun p hp => ?_, ?_⟩
    · have := (List.getElem?_eq_some_iff.1 hj).1
      rw [List.getElem?_eq_none_iff] at hp
      omega
    · rw [List.getElem?_eq_none (Nat.le_refl _)] at hp; cases hp
    · unfold writeP
      rw [hk, hp, List.take_length, List.drop_length]
  | some p =>
    obtain ⟨h1, h2⟩ := List.getElem?_eq_some_iff.1 hp
    have hge : a ≤ p.at_ := by
      have := List.findIdx_getElem (p := fun p : Pr => decide (a ≤ p.at_)) (xs := W) (w := by rw [hk]; exact h1)
      simp only [hk, h2] at this
      simpa using this
    by_cases he : p.at_ = a
    · refine .inl ⟨k, p, hp, he, ?_⟩
      unfold writeP
      rw [hk, hp]
      simp only
      rw [if_pos he]
    · refine .inr ⟨k, by omega, hbelow, fun q hq => ?_, ?_⟩
      · rw [hp] at hq
        injection hq with hq
        subst hq
        omega
      · unfold writeP
        rw [hk, hp]
        simp only
        rw [if_neg he]
theorem writeP_len (W : List Pr) (a v : Int) : (writeP W a v).length ≤ W.length + 1 ∧ 0 < (writeP W a v).length := by
  rcases writeP_cases W a v with ⟨i, p, hp, _, e⟩ | ⟨i, hi, _, _, e⟩
  · rw [e, List.length_set]
    have := (List.getElem?_eq_some_iff.1 hp).1
    omega
  · rw [e]; simp; omega
theorem pairwise_idx {α : Type} {R : α → α → Prop} {l : List α} : l.Pairwise R ↔ ∀ (i j : Nat) (x y : α), l[i]? = some x → l[j]? = some y → i < j → R x y := by
  rw [List.pairwise_iff_getElem]
  constructor
  · intro h i j x y hx hy hij
    obtain ⟨h1, rfl⟩ := List.getElem?_eq_some_iff.1 hx
    obtain ⟨h2, rfl⟩ := List.getElem?_eq_some_iff.1 hy
    exact h i j h1 h2 hij
  · intro h i j h1 h2 hij
    exact h i j _ _ (List.getElem?_eq_getElem h1) (List.getElem?_eq_getElem h2) hij
theorem writeP_sorted {W : List Pr} (h : W.Pairwise (fun p q => p.at_ < q.at_)) (a v : Int) : (writeP W a v).Pairwise (fun p q => p.at_ < q.at_) := by
  rcases writeP_cases W a v with ⟨i, p, hp, _, e⟩ | ⟨i, hi, h1, h2, e⟩
  · rw [e, pairwise_idx]
    rw [pairwise_idx] at h
    intro j k x y hx hy hjk
    have key : ∀ (j : Nat) (x : Pr), (W.set i ⟨p.at_, v⟩)[j]? = some x → ∃ x' : Pr, W[j]? = some x' ∧ x'.at_ = x.at_ := by
      intro j x hx
      rw [List.getElem?_set] at hx
      split at hx
      · rename_i e
        split at hx
        · injection hx with hx
          subst hx
          exact ⟨p, by rw [← e]; exact hp, rfl⟩
        · cases hx
      · exact ⟨x, hx, rfl⟩
    obtain ⟨x', hx', ex⟩ := key j x hx
    obtain ⟨y', hy', ey⟩ := key k y hy
    have := h j k x' y' hx' hy' hjk
    omega
  · rw [e, List.pairwise_append]
    have hsp := h
    rw [← List.take_append_drop i W, List.pairwise_append] at hsp
    obtain ⟨p1, p2, p3⟩ := hsp
    refine ⟨p1, ?_, ?_⟩
    · rw [List.pairwise_cons]
      refine ⟨fun q hq => ?_, p2⟩
      obtain ⟨j, hj, rfl⟩ := List.getElem_of_mem hq
      have hj' : i + j < W.length := by simp at hj; omega
      rw [List.getElem_drop]
      have hi' : i < W.length := by omega
      have hgt := h2 _ (List.getElem?_eq_getElem hi')
      rcases Nat.eq_zero_or_pos j with h0 | h0
      · subst h0; simpa using hgt
      · have := (pairwise_idx.1 h) i (i + j) _ _ (List.getElem?_eq_getElem hi') (List.getElem?_eq_getElem hj') (by omega)
        show a < _
        omega
    · intro x hx y hy
      have hxa : x.at_ < a := by
        obtain ⟨j, hj, rfl⟩ := List.getElem_of_mem hx
        rw [List.getElem_take]
        simp at hj
        exact h1 j _ (List.getElem?_eq_getElem (by omega)) (by omega)
      rw [List.mem_cons] at hy
      rcases hy with rfl | hy
      · exact hxa
      · exact p3 x hx y hy
theorem writeP_mem {W : List Pr} {a v : Int} {q : Pr} (h : q ∈ writeP W a v) : q = ⟨a, v⟩ ∨ q ∈ W := by
  rcases writeP_cases W a v with ⟨i, p, hp, hpa, e⟩ | ⟨i, hi, h1, h2, e⟩
  · rw [e] at h
    rcases List.mem_or_eq_of_mem_set h with h | h
    · exact .inr h
    · rw [h, hpa]; exact .inl rfl
  · rw [e, List.mem_append, List.mem_cons] at h
    rcases h with h | h | h
    · exact .inr (List.mem_of_mem_take h)
    · exact .inl h
    · exact .inr (List.mem_of_mem_drop h)
theorem writeP_at {W : List Pr} {a v : Int} {words : Nat} (h : ∀ p ∈ W, 0 ≤ p.at_ ∧ p.at_ < (words : Int)) (h0 : 0 ≤ a) (h1 : a < (words : Int)) : ∀ p ∈ writeP W a v, 0 ≤ p.at_ ∧ p.at_ < (words : Int) := by
  intro p hp
  rcases writeP_mem hp with rfl | hp
  · exact ⟨h0, h1⟩
  · exact h p hp

/-! ### The ways of a step -/
/-- What comes of a step of thread k, in state t. -/
inductive Way (txs : List (List Ac)) (m : Mm) (k : Nat) (t : Tx) : Mm → Prop
  | begins (h : t.st = 0) : Way txs m k t (beginM m k t)
  | writes (h : t.st = 1) (a : Ac) (ha : (txs.getD t.tx.toNat [])[t.pc.toNat]? = some a) (hd : a.d = 1 ∨ a.d = 2) (u : Int) : Way txs m k t { m with T := m.T.set k { t with W := writeP t.W a.at_ u, pc := t.pc + 1 } }
  | own (h : t.st = 1) (a : Ac) (ha : (txs.getD t.tx.toNat [])[t.pc.toNat]? = some a) (hd : ¬ (a.d = 1 ∨ a.d = 2)) (p : Pr) (hp : p ∈ t.W) (hpa : p.at_ = a.at_) (u : Int) : Way txs m k t { m with T := m.T.set k { t with sum := u, pc := t.pc + 1 } }
  | reads (h : t.st = 1) (a : Ac) (ha : (txs.getD t.tx.toNat [])[t.pc.toNat]? = some a) (hd : ¬ (a.d = 1 ∨ a.d = 2)) (hn : ∀ p ∈ t.W, p.at_ ≠ a.at_) (hs : seesL m.now m.mx m.L a.at_ t.rv (k : Int) = true) (u : Int) : Way txs m k t { m with T := m.T.set k { t with R := t.R ++ [⟨a.at_, m.W.getD a.at_.toNat 0⟩], sum := u, pc := t.pc + 1 } }
  | blind (h : t.st = 1) (a : Ac) (ha : (txs.getD t.tx.toNat [])[t.pc.toNat]? = some a) (hd : ¬ (a.d = 1 ∨ a.d = 2)) (hn : ∀ p ∈ t.W, p.at_ ≠ a.at_) (hs : seesL m.now m.mx m.L a.at_ t.rv (k : Int) = false) : Way txs m k t (endM m k t 1)
  | readonly (h : t.st = 1) (hpc : (txs.getD t.tx.toNat [])[t.pc.toNat]? = none) (hW : t.W.length = 0) : Way txs m k t (endM m k t 0)
  | holds (h : t.st = 1) (hpc : (txs.getD t.tx.toNat [])[t.pc.toNat]? = none) (hW : t.W.length ≠ 0) : Way txs m k t { m with T := m.T.set k { t with st := 2, i := 0 } }
  | takes (h : t.st = 2) (x : Pr) (hx : t.W[t.i.toNat]? = some x) (ht : (takeL m.now m.mx m.L x.at_ (k : Int)).1 = 0) : Way txs m k t { m with L := (takeL m.now m.mx m.L x.at_ (k : Int)).2, T := m.T.set k { t with i := t.i + 1, st := if t.i + 1 = t.W.length then 3 else t.st } }
  | clash (h : t.st = 2) (x : Pr) (hx : t.W[t.i.toNat]? = some x) (ht : (takeL m.now m.mx m.L x.at_ (k : Int)).1 ≠ 0) : Way txs m k t (quitM m k t 1)
  | ticks (h : t.st = 3) (ht : (tickL m.now m.mx m.L).2.2 = 0) : Way txs m k t { m with now := (tickL m.now m.mx m.L).1, T := m.T.set k { t with wv := (tickL m.now m.mx m.L).2.1, st := 4, i := 0 } }
  | late (h : t.st = 3) (ht : (tickL m.now m.mx m.L).2.2 ≠ 0) : Way txs m k t (quitM m k t 2)
  | checks (h : t.st = 4) (x : Pr) (hx : t.R[t.i.toNat]? = some x) (hs : seesL m.now m.mx m.L x.at_ t.rv (k : Int) = true) : Way txs m k t { m with T := m.T.set k { t with i := t.i + 1 } }
  | stale (h : t.st = 4) (x : Pr) (hx : t.R[t.i.toNat]? = some x) (hs : seesL m.now m.mx m.L x.at_ t.rv (k : Int) = false) : Way txs m k t (quitM m k t 1)
  | done (h : t.st = 4) (hx : t.R[t.i.toNat]? = none) : Way txs m k t { tellM m k t 0 with T := m.T.set k { t with st := 5, i := 0 } }
  | backs (h : t.st = 5) (x : Pr) (hx : t.W[t.i.toNat]? = some x) : Way txs m k t { m with W := m.W.set x.at_.toNat x.v, L := (giveL m.now m.mx m.L x.at_ (k : Int) t.wv).2, T := m.T.set k (if t.i + 1 = t.W.length then overT t 0 else { t with i := t.i + 1 }) }

theorem find_mem {W : List Pr} {a : Int} {p : Pr} (h : W[W.findIdx (fun p => p.at_ == a)]? = some p) : p ∈ W ∧ p.at_ = a := by
  obtain ⟨h1, h2⟩ := List.getElem?_eq_some_iff.1 h
  have := List.findIdx_getElem (p := fun p : Pr => p.at_ == a) (xs := W) (w := h1)
  rw [h2] at this
  exact ⟨List.mem_of_getElem? h, by simpa using this⟩
theorem find_none {W : List Pr} {a : Int} (h : W[W.findIdx (fun p => p.at_ == a)]? = none) : ∀ p ∈ W, p.at_ ≠ a := by
  rw [List.getElem?_eq_none_iff] at h
  have h2 : W.findIdx (fun p => p.at_ == a) = W.length := by
    have := List.findIdx_le_length (p := fun p : Pr => p.at_ == a) (xs := W)
    omega
  rw [List.findIdx_eq_length] at h2
  intro p hp
  have := h2 p hp
  simpa using this

theorem way_of {words : Nat} {txs : List (List Ac)} {m : Mm} {k : Nat} {t : Tx} (hg : GoodT words txs t) : Way txs m k t (doM txs m k t) := by
  unfold doM
  split
  · rename_i h; exact .begins h
  split
  · rename_i h
    unfold workM
    cases ha : (txs.getD t.tx.toNat [])[t.pc.toNat]? with
    | none =>
      simp only
      split
      · rename_i h1; exact .readonly h ha h1
      · rename_i h1; exact .holds h ha h1
    | some a =>
      simp only
      unfold actM
      split
      · rename_i h1; exact .writes h a ha (.inl h1) _
      split
      · rename_i h1; exact .writes h a ha (.inr h1) _
      rename_i h1 h2
      have hd : ¬ (a.d = 1 ∨ a.d = 2) := fun h => h.elim h1 h2
      unfold getP
      cases hp : t.W[t.W.findIdx (fun p => p.at_ == a.at_)]? with
      | some p => exact .own h a ha hd p (find_mem hp).1 (find_mem hp).2 _
      | none =>
        simp only
        cases hs : seesL m.now m.mx m.L a.at_ t.rv (k : Int) with
        | true => exact .reads h a ha hd (find_none hp) hs _
        | false => exact .blind h a ha hd (find_none hp) hs
  split
  · rename_i h
    have hi := hg.i2 h
    have h0 := hg.i0
    obtain ⟨x, hx⟩ : ∃ x, t.W[t.i.toNat]? = some x := ⟨_, List.getElem?_eq_getElem (by omega)⟩
    unfold holdM
    rw [hx]
    simp only
    split
    · rename_i h1; exact .takes h x hx h1
    · rename_i h1; exact .clash h x hx h1
  split
  · rename_i h
    unfold tickM
    split
    · rename_i h1; exact .ticks h h1
    · rename_i h1; exact .late h h1
  split
  · rename_i h
    unfold checkM
    cases hx : t.R[t.i.toNat]? with
    | none => exact .done h hx
    | some x =>
      simp only
      cases hs : seesL m.now m.mx m.L x.at_ t.rv (k : Int) with
      | true => exact .checks h x hx hs
      | false => exact .stale h x hx hs
  · rename_i h0 h1 h2 h3 h4
    have h : t.st = 5 := by have := hg.s0; have := hg.s5; omega
    have hi := hg.i5 h
    have hi0 := hg.i0
    obtain ⟨x, hx⟩ : ∃ x, t.W[t.i.toNat]? = some x := ⟨_, List.getElem?_eq_getElem (by omega)⟩
    unfold backM
    rw [hx]
    exact .backs h x hx
end Go.Proofs.Ytngimbfojccikaa
