/- Who holds which lock: plain. -/
import Derived.Test.YtngimbfojccikaaStOrd
namespace Go.Proofs.Ytngimbfojccikaa
set_option linter.unusedSimpArgs false
open Go
set_option linter.unusedVariables false

/-- Does a thread, as it stands, hold this word's lock? -/
def HeldBy (t : Tx) (a : Nat) : Prop :=
  (t.st = 2 ∧ ∃ (j : Nat) (p : Pr), (j : Int) < t.i ∧ t.W[j]? = some p ∧ p.at_ = (a : Int)) ∨ ((t.st = 3 ∨ t.st = 4) ∧ ∃ p ∈ t.W, p.at_ = (a : Int)) ∨ (t.st = 5 ∧ ∃ (j : Nat) (p : Pr), t.i ≤ (j : Int) ∧ t.W[j]? = some p ∧ p.at_ = (a : Int))
theorem HeldBy.low {t : Tx} {a : Nat} (h : t.st < 2) : ¬ HeldBy t a := by
  rintro (⟨h1, _⟩ | ⟨h1, _⟩ | ⟨h1, _⟩) <;> omega
structure LockI (m : Mm) : Prop where
  own : ∀ (k : Nat) t (a : Nat) l, m.T[k]? = some t → m.L[a]? = some l → (l.o = (k : Int) ↔ HeldBy t a)
  who : ∀ (a : Nat) l, m.L[a]? = some l → l.o = -1 ∨ ∃ (k : Nat) (t : Tx), l.o = (k : Int) ∧ m.T[k]? = some t
  ver : ∀ (k : Nat) t (a : Nat) l, m.T[k]? = some t → m.L[a]? = some l → l.o = (k : Int) → 4 ≤ t.st → l.v < t.wv

section
variable {words : Nat} {mx : Int} {pl : List (List (List Ac))} {m m' : Mm} {k : Nat} {t t' : Tx} {txs : List (List Ac)}

theorem set_some {l : List Tx} {j : Nat} {u : Tx} (h : l[j]? = some u) (k : Nat) (x : Tx) : ∃ u', (l.set k x)[j]? = some u' := by
  have := (List.getElem?_eq_some_iff.1 h).1
  exact ⟨_, List.getElem?_eq_getElem (by rw [List.length_set]; exact this)⟩
theorem LockI.same (h : LockI m) (hk : m.T[k]? = some t) (hL : m'.L = m.L) (hT : m'.T = m.T.set k t') (hh : ∀ a, HeldBy t' a ↔ HeldBy t a)
    (hv : 4 ≤ t'.st → ∀ (a : Nat) l, m.L[a]? = some l → l.o = (k : Int) → l.v < t'.wv) : LockI (timeM m') := by
  refine ⟨fun j u a l hu hl => ?_, fun a l hl => ?_, fun j u a l hu hl ho hs => ?_⟩
  · replace hu : m'.T[j]? = some u := hu
    replace hl : m'.L[a]? = some l := hl
    rw [hT] at hu
    rw [hL] at hl
    rcases set_get hu with ⟨rfl, rfl⟩ | ⟨_, hu⟩
    · rw [hh]; exact h.own _ t a l hk hl
    · exact h.own j u a l hu hl
  · replace hl : m'.L[a]? = some l := hl
    rw [hL] at hl
    rcases h.who a l hl with h1 | ⟨j, u, h1, h2⟩
    · exact .inl h1
    · obtain ⟨u', hu'⟩ := set_some h2 k t'
      exact .inr ⟨j, u', h1, by show m'.T[j]? = _; rw [hT]; exact hu'⟩
  · replace hu : m'.T[j]? = some u := hu
    replace hl : m'.L[a]? = some l := hl
    rw [hT] at hu
    rw [hL] at hl
    rcases set_get hu with ⟨rfl, rfl⟩ | ⟨_, hu⟩
    · exact hv hs a l hl ho
    · exact h.ver j u a l hu hl ho hs
theorem LockI.drop (h : LockI m) (hL : m'.L = m.L.map (dropO (k : Int))) (hT : m'.T = m.T.set k t') (hs : t'.st < 2) : LockI (timeM m') := by
  have hd : ∀ (a : Nat) l', (m.L.map (dropO (k : Int)))[a]? = some l' → ∃ l, m.L[a]? = some l ∧ ((l.o = (k : Int) ∧ l'.o = -1) ∨ (l.o ≠ (k : Int) ∧ l' = l)) := by
    intro a l' hl
    rw [List.getElem?_map] at hl
    obtain ⟨l, h1, rfl⟩ := Option.map_eq_some_iff.1 hl
    refine ⟨l, h1, ?_⟩
    unfold dropO
    split
    · rename_i e; exact .inl ⟨e, rfl⟩
    · rename_i e; exact .inr ⟨e, rfl⟩
  refine ⟨fun j u a l hu hl => ?_, fun a l hl => ?_, fun j u a l hu hl ho hs => ?_⟩
  · replace hu : m'.T[j]? = some u := hu
    replace hl : m'.L[a]? = some l := hl
    rw [hT] at hu
    rw [hL] at hl
    obtain ⟨l0, h1, h2⟩ := hd a l hl
    rcases set_get hu with ⟨rfl, rfl⟩ | ⟨hne, hu⟩
    · refine ⟨fun ho => ?_, fun hh => absurd hh (HeldBy.low hs)⟩
      rcases h2 with ⟨_, h3⟩ | ⟨h3, rfl⟩
      · omega
      · exact absurd ho h3
    · rw [← h.own j u a l0 hu h1]
      rcases h2 with ⟨h3, h4⟩ | ⟨h3, rfl⟩
      · constructor
        · intro h5; omega
        · intro h5; omega
      · exact Iff.rfl
  · replace hl : m'.L[a]? = some l := hl
    rw [hL] at hl
    obtain ⟨l0, h1, h2⟩ := hd a l hl
    rcases h2 with ⟨_, h3⟩ | ⟨h3, rfl⟩
    · exact .inl h3
    · rcases h.who a l h1 with h4 | ⟨j, u, h4, h5⟩
      · exact .inl h4
      · obtain ⟨u', hu'⟩ := set_some h5 k t'
        exact .inr ⟨j, u', h4, by show m'.T[j]? = _; rw [hT]; exact hu'⟩
  · replace hu : m'.T[j]? = some u := hu
    replace hl : m'.L[a]? = some l := hl
    rw [hT] at hu
    rw [hL] at hl
    obtain ⟨l0, h1, h2⟩ := hd a l hl
    rcases set_get hu with ⟨rfl, rfl⟩ | ⟨hne, hu⟩
    · omega
    · rcases h2 with ⟨h3, h4⟩ | ⟨h3, rfl⟩
      · omega
      · exact h.ver j u a l hu h1 ho hs
theorem LockI.take (hg : Good words pl m) (h : LockI m) (gt : GoodT words txs t) (hk : m.T[k]? = some t) (hs : t.st = 2) {x : Pr} (hx : t.W[t.i.toNat]? = some x) (ht : (takeL m.now m.mx m.L x.at_ (k : Int)).1 = 0)
    (hL : m'.L = (takeL m.now m.mx m.L x.at_ (k : Int)).2) (hT : m'.T = m.T.set k { t with i := t.i + 1, st := if t.i + 1 = t.W.length then 3 else t.st }) : LockI (timeM m') := by
  obtain ⟨b, hb, _, _, _, hbl, hf, e⟩ := take_ok ht
  rw [e] at hL
  simp only at hL
  have h0 := gt.i0
  have hix : t.i.toNat < t.W.length := (List.getElem?_eq_some_iff.1 hx).1
  have hfree : m.L[b].o = -1 ∨ m.L[b].o = (k : Int) := by
    unfold freeH at hf
    simpa using hf
  have hnew : ∀ a : Nat, HeldBy { t with i := t.i + 1, st := if t.i + 1 = t.W.length then 3 else t.st } a ↔ (a = b ∨ HeldBy t a) := by
    intro a
    have ht0 : HeldBy t a ↔ ∃ (j : Nat) (p : Pr), (j : Int) < t.i ∧ t.W[j]? = some p ∧ p.at_ = (a : Int) := by
      unfold HeldBy
      constructor
      · rintro (⟨_, h⟩ | ⟨h1, _⟩ | ⟨h1, _⟩)
        · exact h
        · omega
        · omega
      · exact fun h => .inl ⟨hs, h⟩
    rw [ht0]
    clear ht0
    by_cases hl : t.i + 1 = (t.W.length : Int)
    · unfold HeldBy
      simp only [if_pos hl]
      constructor
      · rintro (⟨h1, _⟩ | ⟨_, p, hp, hpa⟩ | ⟨h1, _⟩)
        · omega
        · obtain ⟨j, hj⟩ := List.mem_iff_getElem?.1 hp
          by_cases hji : (j : Int) < t.i
          · exact .inr ⟨j, p, hji, hj, hpa⟩
          · have hjl := (List.getElem?_eq_some_iff.1 hj).1
            have hjt : j = t.i.toNat := by omega
            rw [hjt, hx] at hj
            injection hj with hj
            rw [← hj] at hpa
            exact .inl (Int.ofNat.inj (hpa.symm.trans hb))
        · omega
      · rintro (rfl | ⟨j, p, _, hp, hpa⟩)
        · exact .inr (.inl ⟨.inl (by trivial), x, List.mem_of_getElem? hx, hb⟩)
        · exact .inr (.inl ⟨.inl (by trivial), p, List.mem_of_getElem? hp, hpa⟩)
    · unfold HeldBy
      simp only [if_neg hl]
      constructor
      · rintro (⟨_, j, p, hj, hp, hpa⟩ | ⟨h1, _⟩ | ⟨h1, _⟩)
        · by_cases hji : (j : Int) < t.i
          · exact .inr ⟨j, p, hji, hp, hpa⟩
          · have hjt : j = t.i.toNat := by omega
            rw [hjt, hx] at hp
            injection hp with hp
            rw [← hp] at hpa
            exact .inl (Int.ofNat.inj (hpa.symm.trans hb))
        · omega
        · omega
      · rintro (rfl | ⟨j, p, hj, hp, hpa⟩)
        · exact .inl ⟨hs, t.i.toNat, x, by omega, hx, hb⟩
        · exact .inl ⟨hs, j, p, by omega, hp, hpa⟩
  have hld : ∀ (a : Nat) l, m'.L[a]? = some l → (a = b ∧ l.o = (k : Int)) ∨ (a ≠ b ∧ m.L[a]? = some l) := by
    intro a l hl
    rw [hL] at hl
    rcases set_get hl with ⟨rfl, rfl⟩ | h2
    · exact .inl ⟨rfl, rfl⟩
    · exact .inr h2
  refine ⟨fun j u a l hu hl => ?_, fun a l hl => ?_, fun j u a l hu hl ho hst => ?_⟩
  · replace hu : m'.T[j]? = some u := hu
    rw [hT] at hu
    rcases hld a l hl with ⟨rfl, ho⟩ | ⟨hne, hl⟩
    · rcases set_get hu with ⟨rfl, rfl⟩ | ⟨hjk, hu⟩
      · rw [hnew]
        exact ⟨fun _ => .inl rfl, fun _ => ho⟩
      · rw [← h.own j u a m.L[a] hu (List.getElem?_eq_getElem hbl)]
        constructor
        · intro h5; omega
        · intro h5; omega
    · rcases set_get hu with ⟨rfl, rfl⟩ | ⟨hjk, hu⟩
      · rw [hnew, h.own _ t a l hk hl]
        exact ⟨.inr, fun h => h.resolve_left hne⟩
      · exact h.own j u a l hu hl
  · rcases hld a l hl with ⟨rfl, ho⟩ | ⟨hne, hl⟩
    · obtain ⟨u', hu'⟩ := set_some hk k { t with i := t.i + 1, st := if t.i + 1 = t.W.length then 3 else t.st }
      exact .inr ⟨k, u', ho, by show m'.T[k]? = _; rw [hT]; exact hu'⟩
    · rcases h.who a l hl with h4 | ⟨j, u, h4, h5⟩
      · exact .inl h4
      · obtain ⟨u', hu'⟩ := set_some h5 k { t with i := t.i + 1, st := if t.i + 1 = t.W.length then 3 else t.st }
        exact .inr ⟨j, u', h4, by show m'.T[j]? = _; rw [hT]; exact hu'⟩
  · replace hu : m'.T[j]? = some u := hu
    rw [hT] at hu
    rcases set_get hu with ⟨rfl, rfl⟩ | ⟨hjk, hu⟩
    · simp only at hst
      split at hst <;> omega
    · rcases hld a l hl with ⟨rfl, ho2⟩ | ⟨hne, hl⟩
      · omega
      · exact h.ver j u a l hu hl ho hst
theorem give_back (hg : Good words pl m) (hO : OrdI m) (h : LockI m) (gt : GoodT words txs t) (hk : m.T[k]? = some t) (hs : t.st = 5) {x : Pr} (hx : t.W[t.i.toNat]? = some x) :
    ∃ b : Nat, x.at_ = (b : Int) ∧ ∃ hb : b < m.L.length, m.L[b].o = (k : Int) ∧ m.L[b].v < t.wv ∧ giveL m.now m.mx m.L x.at_ (k : Int) t.wv = (0, m.L.set b ⟨t.wv, -1⟩) := by
  have hxa := gt.wa x (List.mem_of_getElem? hx)
  obtain ⟨b, hb⟩ : ∃ b : Nat, x.at_ = (b : Int) := ⟨x.at_.toNat, by omega⟩
  have hbl : b < m.L.length := by rw [hg.L]; omega
  have h0 := gt.i0
  have ho : m.L[b].o = (k : Int) := (h.own k t b _ hk (List.getElem?_eq_getElem hbl)).2 (.inr (.inr ⟨hs, t.i.toNat, x, by omega, hx, hb⟩))
  have hv := h.ver k t b _ hk (List.getElem?_eq_getElem hbl) ho (by omega)
  have hma := may_at hg.may b hbl
  have hw := (hO.t4 k t hk (by omega)).2
  refine ⟨b, hb, hbl, ho, hv, ?_⟩
  rw [hb, give_in hg.may hbl (by omega) (by omega) (by omega) hw, if_pos ho, if_neg (by omega), Int.max_eq_right (by omega)]
theorem LockI.back (hg : Good words pl m) (hO : OrdI m) (h : LockI m) (gt : GoodT words txs t) (hk : m.T[k]? = some t) (hs : t.st = 5) {x : Pr} (hx : t.W[t.i.toNat]? = some x)
    (hL : m'.L = (giveL m.now m.mx m.L x.at_ (k : Int) t.wv).2) (hT : m'.T = m.T.set k (if t.i + 1 = t.W.length then overT t 0 else { t with i := t.i + 1 })) : LockI (timeM m') := by
  obtain ⟨b, hb, hbl, ho, hv, e⟩ := give_back hg hO h gt hk hs hx
  rw [e] at hL
  simp only at hL
  have h0 := gt.i0
  have hix : t.i.toNat < t.W.length := (List.getElem?_eq_some_iff.1 hx).1
  have ht0 : ∀ a : Nat, HeldBy t a ↔ ∃ (j : Nat) (p : Pr), t.i ≤ (j : Int) ∧ t.W[j]? = some p ∧ p.at_ = (a : Int) := by
    intro a
    unfold HeldBy
    constructor
    · rintro (⟨h1, _⟩ | ⟨h1, _⟩ | ⟨_, h⟩)
      · omega
      · omega
      · exact h
    · exact fun h => .inr (.inr ⟨hs, h⟩)
  have hnew : ∀ a : Nat, HeldBy (if t.i + 1 = t.W.length then overT t 0 else { t with i := t.i + 1 }) a ↔ (a ≠ b ∧ HeldBy t a) := by
    intro a
    rw [ht0]
    by_cases hl : t.i + 1 = (t.W.length : Int)
    · rw [if_pos hl]
      refine ⟨fun hh => absurd hh (HeldBy.low (by rw [overT_st]; omega)), ?_⟩
      rintro ⟨hne, j, p, hj, hp, hpa⟩
      have hjl := (List.getElem?_eq_some_iff.1 hp).1
      have : j = t.i.toNat := by omega
      subst this
      rw [hp] at hx
      injection hx with hx
      rw [hx] at hpa
      omega
    · rw [if_neg hl]
      constructor
      · rintro (⟨h1, _⟩ | ⟨h1, _⟩ | ⟨_, j, p, hj, hp, hpa⟩)
        · have : t.st = 2 := h1; omega
        · have : t.st = 3 ∨ t.st = 4 := h1; omega
        · replace hj : t.i + 1 ≤ (j : Int) := hj
          have := (pairwise_idx.1 gt.ws) t.i.toNat j x p hx hp (by omega)
          exact ⟨by omega, j, p, by omega, hp, hpa⟩
      · rintro ⟨hne, j, p, hj, hp, hpa⟩
        refine .inr (.inr ⟨hs, j, p, ?_, hp, hpa⟩)
        show t.i + 1 ≤ (j : Int)
        by_cases hji : (j : Int) = t.i
        · have : j = t.i.toNat := by omega
          subst this
          rw [hp] at hx
          injection hx with hx
          rw [hx] at hpa
          omega
        · omega
  have hld : ∀ (a : Nat) l, m'.L[a]? = some l → (a = b ∧ l.o = -1) ∨ (a ≠ b ∧ m.L[a]? = some l) := by
    intro a l hl
    rw [hL] at hl
    rcases set_get hl with ⟨rfl, rfl⟩ | h2
    · exact .inl ⟨rfl, rfl⟩
    · exact .inr h2
  refine ⟨fun j u a l hu hl => ?_, fun a l hl => ?_, fun j u a l hu hl ho2 hst => ?_⟩
  · replace hu : m'.T[j]? = some u := hu
    rw [hT] at hu
    rcases hld a l hl with ⟨rfl, ho2⟩ | ⟨hne, hl⟩
    · rcases set_get hu with ⟨rfl, rfl⟩ | ⟨hjk, hu⟩
      · rw [hnew]
        exact ⟨fun h5 => by omega, fun h5 => absurd rfl h5.1⟩
      · rw [← h.own j u a m.L[a] hu (List.getElem?_eq_getElem hbl)]
        constructor
        · intro h5; omega
        · intro h5; omega
    · rcases set_get hu with ⟨rfl, rfl⟩ | ⟨hjk, hu⟩
      · rw [hnew, h.own _ t a l hk hl]
        exact ⟨fun h5 => ⟨hne, h5⟩, fun h5 => h5.2⟩
      · exact h.own j u a l hu hl
  · rcases hld a l hl with ⟨rfl, ho2⟩ | ⟨hne, hl⟩
    · exact .inl ho2
    · rcases h.who a l hl with h4 | ⟨j, u, h4, h5⟩
      · exact .inl h4
      · obtain ⟨u', hu'⟩ := set_some h5 k (if t.i + 1 = t.W.length then overT t 0 else { t with i := t.i + 1 })
        exact .inr ⟨j, u', h4, by show m'.T[j]? = _; rw [hT]; exact hu'⟩
  · replace hu : m'.T[j]? = some u := hu
    rw [hT] at hu
    rcases hld a l hl with ⟨rfl, ho3⟩ | ⟨hne, hl⟩
    · omega
    · rcases set_get hu with ⟨rfl, rfl⟩ | ⟨hjk, hu⟩
      · have := h.ver _ t a l hk hl ho2 (by omega)
        split
        · rename_i e2
          rw [if_pos e2, overT_st] at hst
          omega
        · exact this
      · exact h.ver j u a l hu hl ho2 hst

theorem lock_way (hg : Good words pl m) (hO : OrdI m) (h : LockI m) (hk : m.T[k]? = some t) (htx : pl[k]? = some txs) (hw : Way txs m k t m') : LockI (timeM m') := by
  have gt := hg.ts k t txs hk htx
  have hlow : ∀ (u v : Tx), u.st < 2 → v.st < 2 → ∀ a, HeldBy u a ↔ HeldBy v a := fun u v h1 h2 a => ⟨fun hh => absurd hh (HeldBy.low h1), fun hh => absurd hh (HeldBy.low h2)⟩
  cases hw with
  | begins hs => exact h.same hk rfl rfl (hlow _ _ (by show (1 : Int) < 2; omega) (by omega)) (fun h4 => absurd (show (4 : Int) ≤ 1 from h4) (by omega))
  | writes hs a ha hd u => exact h.same hk rfl rfl (hlow _ _ (by show t.st < 2; omega) (by omega)) (fun h4 => absurd (show (4 : Int) ≤ t.st from h4) (by omega))
  | own hs a ha hd p hp hpa u => exact h.same hk rfl rfl (hlow _ _ (by show t.st < 2; omega) (by omega)) (fun h4 => absurd (show (4 : Int) ≤ t.st from h4) (by omega))
  | reads hs a ha hd hn hs2 u => exact h.same hk rfl rfl (hlow _ _ (by show t.st < 2; omega) (by omega)) (fun h4 => absurd (show (4 : Int) ≤ t.st from h4) (by omega))
  | blind hs a ha hd hn hs2 => exact h.same (m' := endM m k t 1) hk rfl rfl (hlow _ _ (by rw [overT_st]; omega) (by omega)) (fun h4 => by rw [overT_st] at h4; omega)
  | readonly hs hpc hW => exact h.same (m' := endM m k t 0) hk rfl rfl (hlow _ _ (by rw [overT_st]; omega) (by omega)) (fun h4 => by rw [overT_st] at h4; omega)
  | holds hs hpc hW =>
    refine h.same (t' := { t with st := 2, i := 0 }) hk rfl rfl (fun a => ⟨fun hh => ?_, fun hh => absurd hh (HeldBy.low (by omega))⟩) (fun h4 => absurd (show (4 : Int) ≤ 2 from h4) (by omega))
    rcases hh with ⟨_, j, p, hj, _⟩ | ⟨h1, _⟩ | ⟨h1, _⟩
    · have : (j : Int) < 0 := hj; omega
    · have : (2 : Int) = 3 ∨ (2 : Int) = 4 := h1; omega
    · have : (2 : Int) = 5 := h1; omega
  | takes hs x hx ht => exact h.take hg gt hk hs hx ht rfl rfl
  | clash hs x hx ht => exact h.drop (m' := quitM m k t 1) rfl rfl (by rw [overT_st]; omega)
  | ticks hs ht =>
    refine h.same (t' := { t with wv := (tickL m.now m.mx m.L).2.1, st := 4, i := 0 }) hk rfl rfl (fun a => ⟨fun hh => ?_, fun hh => ?_⟩) (fun _ a l hl ho => ?_)
    · rcases hh with ⟨h1, _⟩ | ⟨_, h2⟩ | ⟨h1, _⟩
      · have : (4 : Int) = 2 := h1; omega
      · exact .inr (.inl ⟨.inl hs, h2⟩)
      · have : (4 : Int) = 5 := h1; omega
    · rcases hh with ⟨h1, _⟩ | ⟨_, h2⟩ | ⟨h1, _⟩
      · omega
      · exact .inr (.inl ⟨.inr rfl, h2⟩)
      · omega
    · show l.v < (tickL m.now m.mx m.L).2.1
      rcases tick_cases hg.may with ⟨_, e⟩ | ⟨hlt, e⟩
      · rw [e] at ht; simp at ht
      · rw [e]
        obtain ⟨h1, rfl⟩ := List.getElem?_eq_some_iff.1 hl
        have := may_at hg.may a h1
        show m.L[a].v < m.now + 1
        omega
  | late hs ht => exact h.drop (m' := quitM m k t 2) rfl rfl (by rw [overT_st]; omega)
  | checks hs x hx hs2 =>
    refine h.same (t' := { t with i := t.i + 1 }) hk rfl rfl (fun a => ⟨fun hh => ?_, fun hh => ?_⟩) (fun _ a l hl ho => h.ver k t a l hk hl ho (by omega))
    · rcases hh with ⟨h1, _⟩ | ⟨_, h2⟩ | ⟨h1, _⟩
      · have : t.st = 2 := h1; omega
      · exact .inr (.inl ⟨.inr hs, h2⟩)
      · have : t.st = 5 := h1; omega
    · rcases hh with ⟨h1, _⟩ | ⟨_, h2⟩ | ⟨h1, _⟩
      · omega
      · exact .inr (.inl ⟨.inr hs, h2⟩)
      · omega
  | stale hs x hx hs2 => exact h.drop (m' := quitM m k t 1) rfl rfl (by rw [overT_st]; omega)
  | done hs hx =>
    refine h.same (m' := { tellM m k t 0 with T := m.T.set k { t with st := 5, i := 0 } }) (t' := { t with st := 5, i := 0 }) hk rfl rfl (fun a => ⟨fun hh => ?_, fun hh => ?_⟩) (fun _ a l hl ho => h.ver k t a l hk hl ho (by omega))
    · rcases hh with ⟨h1, _⟩ | ⟨h1, _⟩ | ⟨_, j, p, _, hp, hpa⟩
      · have : (5 : Int) = 2 := h1; omega
      · have : (5 : Int) = 3 ∨ (5 : Int) = 4 := h1; omega
      · exact .inr (.inl ⟨.inr hs, p, List.mem_of_getElem? hp, hpa⟩)
    · rcases hh with ⟨h1, _⟩ | ⟨_, p, hp, hpa⟩ | ⟨h1, _⟩
      · omega
      · obtain ⟨j, hj, rfl⟩ := List.getElem_of_mem hp
        exact .inr (.inr ⟨rfl, j, _, (by show (0 : Int) ≤ j; omega), List.getElem?_eq_getElem hj, hpa⟩)
      · omega
  | backs hs x hx => exact h.back hg hO gt hk hs hx rfl rfl
theorem lock_run (hp : PlanOk words mx pl) (picks : List Int) : OrdI (runM words mx pl picks) ∧ LockI (runM words mx pl picks) := by
  refine run_ind hp (P := fun m => OrdI m ∧ LockI m) ⟨ord_run hp [], ?_⟩ (fun m k t txs m' hg h hk htx _ hw => ⟨ord_way hg h.1 hk htx hw, lock_way hg h.1 h.2 hk htx hw⟩) (fun m h => ⟨⟨h.1.t1, h.1.t4, h.1.hs⟩, ⟨h.2.own, h.2.who, h.2.ver⟩⟩) picks
  have hl : ∀ (a : Nat) l, (initM words mx pl.length).L[a]? = some l → l.o = -1 := by
    intro a l hl
    simp only [initM] at hl
    rw [List.eq_of_mem_replicate (List.mem_of_getElem? hl)]
  have ht : ∀ (a : Nat) t, (initM words mx pl.length).T[a]? = some t → t.st = 0 := by
    intro a l hl
    simp only [initM] at hl
    rw [List.eq_of_mem_replicate (List.mem_of_getElem? hl)]
    rfl
  exact ⟨fun k t a l h1 h2 => ⟨fun h => by have := hl a l h2; omega, fun h => absurd h (HeldBy.low (by have := ht k t h1; omega))⟩, fun a l h => .inl (hl a l h), fun k t a l h1 h2 h3 => by have := hl a l h2; omega⟩
end
end Go.Proofs.Ytngimbfojccikaa
