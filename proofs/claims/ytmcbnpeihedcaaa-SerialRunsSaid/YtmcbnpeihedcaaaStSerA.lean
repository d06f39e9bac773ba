/- Several texts in one: StOrd, StLock, StSer. -/
import Derived.Test.YtmcbnpeihedcaaaStRunA
namespace Go.Proofs.Ytmcbnpeihedcaaa
set_option linter.unusedSimpArgs false
open Go
set_option linter.unusedVariables false

section
variable {words : Nat} {mx : Int} {pl : List (List (List Ac))}

theorem runFrom_ind {P : Mm → Prop} (hp : PlanOk words mx pl)
    (hs : ∀ m k t txs m', Good words pl m → P m → m.T[k]? = some t → pl[k]? = some txs → t.tx < (txs.length : Int) → Way txs m k t m' → P (timeM m'))
    (ht : ∀ m, P m → P (timeM m)) : ∀ (picks : List Int) (m : Mm), Good words pl m → P m → P (runFrom pl m picks)
  | [], m, _, h => h
  | q :: picks, m, hg, h => by
    refine runFrom_ind hp hs ht picks _ (good_step hp hg q) ?_
    show P (timeM (stepM pl m q))
    unfold stepM
    split
    · unfold stepK
      cases hk : m.T[q.toNat]? with
      | none => exact ht m h
      | some t =>
        cases htx : pl[q.toNat]? with
        | none => exact ht m h
        | some txs =>
          simp only
          split
          · rename_i hlt
            exact hs m _ t txs _ hg h hk htx hlt (way_of (hg.ts _ t txs hk htx))
          · exact ht m h
    · exact ht m h
theorem run_ind {P : Mm → Prop} (hp : PlanOk words mx pl) (h0 : P (initM words mx pl.length))
    (hs : ∀ m k t txs m', Good words pl m → P m → m.T[k]? = some t → pl[k]? = some txs → t.tx < (txs.length : Int) → Way txs m k t m' → P (timeM m'))
    (ht : ∀ m, P m → P (timeM m)) (picks : List Int) : P (runM words mx pl picks) :=
  runFrom_ind hp hs ht picks _ (good_init hp) h0

theorem set_get {α : Type} {l : List α} {k j : Nat} {x y : α} (h : (l.set k x)[j]? = some y) : (j = k ∧ y = x) ∨ (j ≠ k ∧ l[j]? = some y) := by
  rw [List.getElem?_set] at h
  split at h
  · rename_i e
    split at h
    · injection h with h
      exact .inl ⟨e.symm, h.symm⟩
    · cases h
  · rename_i e
    exact .inr ⟨fun h => e h.symm, h⟩

/-! ### StmOrder -/
structure OrdI (m : Mm) : Prop where
  t1 : ∀ (k : Nat) t, m.T[k]? = some t → 1 ≤ t.st → t.rv ≤ m.now
  t4 : ∀ (k : Nat) t, m.T[k]? = some t → 4 ≤ t.st → t.rv < t.wv ∧ t.wv ≤ m.now
  hs : ∀ x ∈ m.H, x.W.Pairwise (fun p q => p.at_ < q.at_) ∧ x.rv ≤ m.now ∧ (x.en = 0 → x.W ≠ [] → x.rv < x.wv ∧ x.wv ≤ m.now)
theorem overT_st (t : Tx) (how : Int) : (overT t how).st = 0 := by unfold overT; split <;> rfl
theorem OrdI.with {m m' : Mm} {k : Nat} {t' : Tx} (h : OrdI m) (hn : m.now ≤ m'.now) (hT : m'.T = m.T.set k t') (h1 : 1 ≤ t'.st → t'.rv ≤ m'.now) (h4 : 4 ≤ t'.st → t'.rv < t'.wv ∧ t'.wv ≤ m'.now)
    (hH : ∀ x ∈ m'.H, x ∈ m.H ∨ (x.W.Pairwise (fun p q => p.at_ < q.at_) ∧ x.rv ≤ m'.now ∧ (x.en = 0 → x.W ≠ [] → x.rv < x.wv ∧ x.wv ≤ m'.now))) : OrdI (timeM m') := by
  refine ⟨fun j u hu hs => ?_, fun j u hu hs => ?_, fun x hx => ?_⟩
  · replace hu : m'.T[j]? = some u := hu
    rw [hT] at hu
    show u.rv ≤ m'.now
    rcases set_get hu with ⟨_, rfl⟩ | ⟨_, hu⟩
    · exact h1 hs
    · have := h.t1 j u hu hs; omega
  · replace hu : m'.T[j]? = some u := hu
    rw [hT] at hu
    show u.rv < u.wv ∧ u.wv ≤ m'.now
    rcases set_get hu with ⟨_, rfl⟩ | ⟨_, hu⟩
    · exact h4 hs
    · have := h.t4 j u hu hs; omega
  · show x.W.Pairwise _ ∧ x.rv ≤ m'.now ∧ (x.en = 0 → x.W ≠ [] → x.rv < x.wv ∧ x.wv ≤ m'.now)
    rcases hH x hx with hx | hx
    · have := h.hs x hx
      exact ⟨this.1, by have := this.2.1; omega, fun e1 e2 => by have := this.2.2 e1 e2; omega⟩
    · exact hx
theorem ord_way {m : Mm} {k : Nat} {t : Tx} {txs : List (List Ac)} {m' : Mm} (hg : Good words pl m) (h : OrdI m) (hk : m.T[k]? = some t) (htx : pl[k]? = some txs) (hw : Way txs m k t m') : OrdI (timeM m') := by
  have gt := hg.ts k t txs hk htx
  have h1 := h.t1 k t hk
  have h4 := h.t4 k t hk
  have hno : ∀ (how : Int) (n : Mm), n.now = m.now → how ≠ 0 → n.H = m.H → 1 ≤ t.st → ∀ x ∈ (endM n k t how).H, x ∈ m.H ∨ (x.W.Pairwise (fun p q => p.at_ < q.at_) ∧ x.rv ≤ m.now ∧ (x.en = 0 → x.W ≠ [] → x.rv < x.wv ∧ x.wv ≤ m.now)) := by
    intro how n hn hh hH hst x hx
    simp only [endM, overM, tellM, List.mem_append, List.mem_singleton, hH] at hx
    rcases hx with hx | rfl
    · exact .inl hx
    · exact .inr ⟨gt.ws, h1 hst, fun e => absurd e hh⟩
  have hov : ∀ (how : Int), (1 ≤ (overT t how).st → (overT t how).rv ≤ m.now) ∧ (4 ≤ (overT t how).st → (overT t how).rv < (overT t how).wv ∧ (overT t how).wv ≤ m.now) := fun how => by
    rw [overT_st]
    exact ⟨fun h => by omega, fun h => by omega⟩
  cases hw with
  | begins hs => exact h.with (Int.le_refl _) rfl (fun _ => Int.le_refl _) (fun h => by have : (4 : Int) ≤ 1 := h; omega) (fun x hx => .inl hx)
  | writes hs a ha hd u => exact h.with (Int.le_refl _) rfl (fun hst => h1 hst) (fun hst => h4 hst) (fun x hx => .inl hx)
  | own hs a ha hd p hp hpa u => exact h.with (Int.le_refl _) rfl (fun hst => h1 hst) (fun hst => h4 hst) (fun x hx => .inl hx)
  | reads hs a ha hd hn hs2 u => exact h.with (Int.le_refl _) rfl (fun hst => h1 hst) (fun hst => h4 hst) (fun x hx => .inl hx)
  | blind hs a ha hd hn hs2 => exact h.with (Int.le_refl _) rfl (hov 1).1 (hov 1).2 (hno 1 m rfl (by omega) rfl (by omega))
  | readonly hs hpc hW =>
    refine h.with (Int.le_refl _) rfl (hov 0).1 (hov 0).2 (fun x hx => ?_)
    simp only [endM, overM, tellM, List.mem_append, List.mem_singleton] at hx
    rcases hx with hx | rfl
    · exact .inl hx
    · exact .inr ⟨gt.ws, h1 (by omega), fun _ e => absurd (List.eq_nil_of_length_eq_zero hW) e⟩
  | holds hs hpc hW => exact h.with (Int.le_refl _) rfl (fun _ => h1 (by omega)) (fun h => by have : (4 : Int) ≤ 2 := h; omega) (fun x hx => .inl hx)
  | takes hs x hx ht => exact h.with (Int.le_refl _) rfl (fun _ => h1 (by omega)) (fun h => by exfalso; simp only at h; split at h <;> omega) (fun x hx => .inl hx)
  | clash hs x hx ht => exact h.with (Int.le_refl _) rfl (hov 1).1 (hov 1).2 (hno 1 _ rfl (by omega) rfl (by omega))
  | ticks hs ht =>
    rcases tick_cases hg.may with ⟨_, e⟩ | ⟨hlt, e⟩
    · rw [e] at ht; simp at ht
    · have hr := h1 (by omega)
      refine h.with (m' := { m with now := (tickL m.now m.mx m.L).1, T := m.T.set k { t with wv := (tickL m.now m.mx m.L).2.1, st := 4, i := 0 } }) (by show m.now ≤ (tickL m.now m.mx m.L).1; rw [e]; show m.now ≤ m.now + 1; omega) rfl (fun _ => ?_) (fun _ => ?_) (fun x hx => .inl hx)
      · show t.rv ≤ (tickL m.now m.mx m.L).1
        rw [e]; show t.rv ≤ m.now + 1; omega
      · show t.rv < (tickL m.now m.mx m.L).2.1 ∧ (tickL m.now m.mx m.L).2.1 ≤ (tickL m.now m.mx m.L).1
        rw [e]; show t.rv < m.now + 1 ∧ m.now + 1 ≤ m.now + 1; omega
  | late hs ht => exact h.with (Int.le_refl _) rfl (hov 2).1 (hov 2).2 (hno 2 _ rfl (by omega) rfl (by omega))
  | checks hs x hx hs2 => exact h.with (Int.le_refl _) rfl (fun hst => h1 hst) (fun hst => h4 hst) (fun x hx => .inl hx)
  | stale hs x hx hs2 => exact h.with (Int.le_refl _) rfl (hov 1).1 (hov 1).2 (hno 1 _ rfl (by omega) rfl (by omega))
  | done hs hx =>
    refine h.with (m' := { tellM m k t 0 with T := m.T.set k { t with st := 5, i := 0 } }) (Int.le_refl _) rfl (fun _ => h1 (by omega)) (fun _ => h4 (by omega)) (fun x hx => ?_)
    simp only [tellM, List.mem_append, List.mem_singleton] at hx
    rcases hx with hx | rfl
    · exact .inl hx
    · exact .inr ⟨gt.ws, h1 (by omega), fun _ _ => h4 (by omega)⟩
  | backs hs x hx =>
    refine h.with (m' := { m with W := m.W.set x.at_.toNat x.v, L := (giveL m.now m.mx m.L x.at_ (k : Int) t.wv).2, T := m.T.set k (if t.i + 1 = t.W.length then overT t 0 else { t with i := t.i + 1 }) }) (Int.le_refl _) rfl (fun hst => ?_) (fun hst => ?_) (fun x hx => .inl hx)
    · split at hst
      · rw [overT_st] at hst; omega
      · rw [if_neg (by assumption)]; exact h1 hst
    · split at hst
      · rw [overT_st] at hst; omega
      · rw [if_neg (by assumption)]; exact h4 hst
theorem ord_run (hp : PlanOk words mx pl) (picks : List Int) : OrdI (runM words mx pl picks) := by
  refine run_ind hp ⟨fun k t hk hs => ?_, fun k t hk hs => ?_, fun x hx => by simp [initM] at hx⟩ (fun m k t txs m' hg h hk htx _ hw => ord_way hg h hk htx hw) (fun m h => ⟨h.t1, h.t4, h.hs⟩) picks
  all_goals
    simp only [initM] at hk
    have := List.eq_of_mem_replicate (List.mem_of_getElem? hk)
    rw [this] at hs
    simp [Tx.zero] at hs
end
end Go.Proofs.Ytmcbnpeihedcaaa
namespace Go.Proofs.Ytmcbnpeihedcaaa
set_option linter.unusedSimpArgs false
open Go
set_option linter.unusedVariables false

/-- Does a thread, as it stands, hold this word's lock? -/
def HeldBy (t : Tx) (a : Nat) : Prop :=
  (t.st = 2 ∧ ∃ (j : Nat) (p : Pr), (j : Int) < t.i ∧ t.W[j]? = some p ∧ p.at_ = (a : Int)) ∨ ((t.st = 3 ∨ t.st = 4) ∧ ∃ p ∈ t.W, p.at_ = (a : Int)) ∨ (t.st = 5 ∧ ∃ (j : Nat) (p : Pr), t.i ≤ (j : Int) ∧ t.W[j]? = some p ∧ p.at_ = (a : Int))
theorem HeldBy.low {t : Tx} {a : Nat} (h : t.st < 2) : ¬ HeldBy t a := by
  rintro (⟨h1, _⟩ | ⟨h1, _⟩ | ⟨h1, _⟩) <;> omega
structure LockI (m : Mm) : Prop where
  own : ∀ (k : Nat) t (a : Nat) l, m.T[k]? = some t → m.L[a]? = some l → (l.o = (k : Int) ↔ HeldBy t a)
  who : ∀ (a : Nat) l, m.L[a]? = some l → l.o = -1 ∨ ∃ (k : Nat) (t : Tx), l.o = (k : Int) ∧ m.T[k]? = some t
  ver : ∀ (k : Nat) t (a : Nat) l, m.T[k]? = some t → m.L[a]? = some l → l.o = (k : Int) → 4 ≤ t.st → l.v < t.wv

section
variable {words : Nat} {mx : Int} {pl : List (List (List Ac))} {m m' : Mm} {k : Nat} {t t' : Tx} {txs : List (List Ac)}

theorem set_some {l : List Tx} {j : Nat} {u : Tx} (h : l[j]? = some u) (k : Nat) (x : Tx) : ∃ u', (l.set k x)[j]? = some u' := by
  have := (List.getElem?_eq_some_iff.1 h).1
  exact ⟨_, List.getElem?_eq_getElem (by rw [List.length_set]; exact this)⟩
theorem LockI.same (h : LockI m) (hk : m.T[k]? = some t) (hL : m'.L = m.L) (hT : m'.T = m.T.set k t') (hh : ∀ a, HeldBy t' a ↔ HeldBy t a)
    (hv : 4 ≤ t'.st → ∀ (a : Nat) l, m.L[a]? = some l → l.o = (k : Int) → l.v < t'.wv) : LockI (timeM m') := by
  refine ⟨fun j u a l hu hl => ?_, fun a l hl => ?_, fun j u a l hu hl ho hs => ?_⟩
  · replace hu : m'.T[j]? = some u := hu
    replace hl : m'.L[a]? = some l := hl
    rw [hT] at hu
    rw [hL] at hl
    rcases set_get hu with ⟨rfl, rfl⟩ | ⟨_, hu⟩
    · rw [hh]; exact h.own _ t a l hk hl
    · exact h.own j u a l hu hl
  · replace hl : m'.L[a]? = some l := hl
    rw [hL] at hl
    rcases h.who a l hl with h1 | ⟨j, u, h1, h2⟩
    · exact .inl h1
    · obtain ⟨u', hu'⟩ := set_some h2 k t'
      exact .inr ⟨j, u', h1, by show m'.T[j]? = _; rw [hT]; exact hu'⟩
  · replace hu : m'.T[j]? = some u := hu
    replace hl : m'.L[a]? = some l := hl
    rw [hT] at hu
    rw [hL] at hl
    rcases set_get hu with ⟨rfl, rfl⟩ | ⟨_, hu⟩
    · exact hv hs a l hl ho
    · exact h.ver j u a l hu hl ho hs
theorem LockI.drop (h : LockI m) (hL : m'.L = m.L.map (dropO (k : Int))) (hT : m'.T = m.T.set k t') (hs : t'.st < 2) : LockI (timeM m') := by
  have hd : ∀ (a : Nat) l', (m.L.map (dropO (k : Int)))[a]? = some l' → ∃ l, m.L[a]? = some l ∧ ((l.o = (k : Int) ∧ l'.o = -1) ∨ (l.o ≠ (k : Int) ∧ l' = l)) := by
    intro a l' hl
    rw [List.getElem?_map] at hl
    obtain ⟨l, h1, rfl⟩ := Option.map_eq_some_iff.1 hl
    refine ⟨l, h1, ?_⟩
    unfold dropO
    split
    · rename_i e; exact .inl ⟨e, rfl⟩
    · rename_i e; exact .inr ⟨e, rfl⟩
  refine ⟨fun j u a l hu hl => ?_, fun a l hl => ?_, fun j u a l hu hl ho hs => ?_⟩
  · replace hu : m'.T[j]? = some u := hu
    replace hl : m'.L[a]? = some l := hl
    rw [hT] at hu
    rw [hL] at hl
    obtain ⟨l0, h1, h2⟩ := hd a l hl
    rcases set_get hu with ⟨rfl, rfl⟩ | ⟨hne, hu⟩
    · refine ⟨fun ho => ?_, fun hh => absurd hh (HeldBy.low hs)⟩
      rcases h2 with ⟨_, h3⟩ | ⟨h3, rfl⟩
      · omega
      · exact absurd ho h3
    · rw [← h.own j u a l0 hu h1]
      rcases h2 with ⟨h3, h4⟩ | ⟨h3, rfl⟩
      · constructor
        · intro h5; omega
        · intro h5; omega
      · exact Iff.rfl
  · replace hl : m'.L[a]? = some l := hl
    rw [hL] at hl
    obtain ⟨l0, h1, h2⟩ := hd a l hl
    rcases h2 with ⟨_, h3⟩ | ⟨h3, rfl⟩
    · exact .inl h3
    · rcases h.who a l h1 with h4 | ⟨j, u, h4, h5⟩
      · exact .inl h4
      · obtain ⟨u', hu'⟩ := set_some h5 k t'
        exact .inr ⟨j, u', h4, by show m'.T[j]? = _; rw [hT]; exact hu'⟩
  · replace hu : m'.T[j]? = some u := hu
    replace hl : m'.L[a]? = some l := hl
    rw [hT] at hu
    rw [hL] at hl
    obtain ⟨l0, h1, h2⟩ := hd a l hl
    rcases set_get hu with ⟨rfl, rfl⟩ | ⟨hne, hu⟩
    · omega
    · rcases h2 with ⟨h3, h4⟩ | ⟨h3, rfl⟩
      · omega
      · exact h.ver j u a l hu h1 ho hs
theorem LockI.take (hg : Good words pl m) (h : LockI m) (gt : GoodT words txs t) (hk : m.T[k]? = some t) (hs : t.st = 2) {x : Pr} (hx : t.W[t.i.toNat]? = some x) (ht : (takeL m.now m.mx m.L x.at_ (k : Int)).1 = 0)
    (hL : m'.L = (takeL m.now m.mx m.L x.at_ (k : Int)).2) (hT : m'.T = m.T.set k { t with i := t.i + 1, st := if t.i + 1 = t.W.length then 3 else t.st }) : LockI (timeM m') := by
  obtain ⟨b, hb, _, _, _, hbl, hf, e⟩ := take_ok ht
  rw [e] at hL
  simp only at hL
  have h0 := gt.i0
  have hix : t.i.toNat < t.W.length := (List.getElem?_eq_some_iff.1 hx).1
  have hfree : m.L[b].o = -1 ∨ m.L[b].o = (k : Int) := by
    unfold freeH at hf
    simpa using hf
  have hnew : ∀ a : Nat, HeldBy { t with i := t.i + 1, st := if t.i + 1 = t.W.length then 3 else t.st } a ↔ (a = b ∨ HeldBy t a) := by
    intro a
    have ht0 : HeldBy t a ↔ ∃ (j : Nat) (p : Pr), (j : Int) < t.i ∧ t.W[j]? = some p ∧ p.at_ = (a : Int) := by
      unfold HeldBy
      constructor
      · rintro (⟨_, h⟩ | ⟨h1, _⟩ | ⟨h1, _⟩)
        · exact h
        · omega
        · omega
      · exact fun h => .inl ⟨hs, h⟩
    rw [ht0]
    clear ht0
    by_cases hl : t.i + 1 = (t.W.length : Int)
    · unfold HeldBy
      simp only [if_pos hl]
      constructor
      · rintro (⟨h1, _⟩ | ⟨_, p, hp, hpa⟩ | ⟨h1, _⟩)
        · omega
        · obtain ⟨j, hj⟩ := List.mem_iff_getElem?.1 hp
          by_cases hji : (j : Int) < t.i
          · exact .inr ⟨j, p, hji, hj, hpa⟩
          · have hjl := (List.getElem?_eq_some_iff.1 hj).1
            have hjt : j = t.i.toNat := by omega
            rw [hjt, hx] at hj
            injection hj with hj
            rw [← hj] at hpa
            exact .inl (Int.ofNat.inj (hpa.symm.trans hb))
        · omega
      · rintro (rfl | ⟨j, p, _, hp, hpa⟩)
        · exact .inr (.inl ⟨.inl (by trivial), x, List.mem_of_getElem? hx, hb⟩)
        · exact .inr (.inl ⟨.inl (by trivial), p, List.mem_of_getElem? hp, hpa⟩)
    · unfold HeldBy
      simp only [if_neg hl]
      constructor
      · rintro (⟨_, j, p, hj, hp, hpa⟩ | ⟨h1, _⟩ | ⟨h1, _⟩)
        · by_cases hji : (j : Int) < t.i
          · exact .inr ⟨j, p, hji, hp, hpa⟩
          · have hjt : j = t.i.toNat := by omega
            rw [hjt, hx] at hp
            injection hp with hp
            rw [← hp] at hpa
            exact .inl (Int.ofNat.inj (hpa.symm.trans hb))
        · omega
        · omega
      · rintro (rfl | ⟨j, p, hj, hp, hpa⟩)
        · exact .inl ⟨hs, t.i.toNat, x, by omega, hx, hb⟩
        · exact .inl ⟨hs, j, p, by omega, hp, hpa⟩
  have hld : ∀ (a : Nat) l, m'.L[a]? = some l → (a = b ∧ l.o = (k : Int)) ∨ (a ≠ b ∧ m.L[a]? = some l) := by
    intro a l hl
    rw [hL] at hl
    rcases set_get hl with ⟨rfl, rfl⟩ | h2
    · exact .inl ⟨rfl, rfl⟩
    · exact .inr h2
  refine ⟨fun j u a l hu hl => ?_, fun a l hl => ?_, fun j u a l hu hl ho hst => ?_⟩
  · replace hu : m'.T[j]? = some u := hu
    rw [hT] at hu
    rcases hld a l hl with ⟨rfl, ho⟩ | ⟨hne, hl⟩
    · rcases set_get hu with ⟨rfl, rfl⟩ | ⟨hjk, hu⟩
      · rw [hnew]
        exact ⟨fun _ => .inl rfl, fun _ => ho⟩
      · rw [← h.own j u a m.L[a] hu (List.getElem?_eq_getElem hbl)]
        constructor
        · intro h5; omega
        · intro h5; omega
    · rcases set_get hu with ⟨rfl, rfl⟩ | ⟨hjk, hu⟩
      · rw [hnew, h.own _ t a l hk hl]
        exact ⟨.inr, fun h => h.resolve_left hne⟩
      · exact h.own j u a l hu hl
  · rcases hld a l hl with ⟨rfl, ho⟩ | ⟨hne, hl⟩
    · obtain ⟨u', hu'⟩ := set_some hk k { t with i := t.i + 1, st := if t.i + 1 = t.W.length then 3 else t.st }
      exact .inr ⟨k, u', ho, by show m'.T[k]? = _; rw [hT]; exact hu'⟩
    · rcases h.who a l hl with h4 | ⟨j, u, h4, h5⟩
      · exact .inl h4
      · obtain ⟨u', hu'⟩ := set_some h5 k { t with i := t.i + 1, st := if t.i + 1 = t.W.length then 3 else t.st }
        exact .inr ⟨j, u', h4, by show m'.T[j]? = _; rw [hT]; exact hu'⟩
  · replace hu : m'.T[j]? = some u := hu
    rw [hT] at hu
    rcases set_get hu with ⟨rfl, rfl⟩ | ⟨hjk, hu⟩
    · simp only at hst
      split at hst <;> omega
    · rcases hld a l hl with ⟨rfl, ho2⟩ | ⟨hne, hl⟩
      · omega
      · exact h.ver j u a l hu hl ho hst
theorem give_back (hg : Good words pl m) (hO : OrdI m) (h : LockI m) (gt : GoodT words txs t) (hk : m.T[k]? = some t) (hs : t.st = 5) {x : Pr} (hx : t.W[t.i.toNat]? = some x) :
    ∃ b : Nat, x.at_ = (b : Int) ∧ ∃ hb : b < m.L.length, m.L[b].o = (k : Int) ∧ m.L[b].v < t.wv ∧ giveL m.now m.mx m.L x.at_ (k : Int) t.wv = (0, m.L.set b ⟨t.wv, -1⟩) := by
  have hxa := gt.wa x (List.mem_of_getElem? hx)
  obtain ⟨b, hb⟩ : ∃ b : Nat, x.at_ = (b : Int) := ⟨x.at_.toNat, by omega⟩
  have hbl : b < m.L.length := by rw [hg.L]; omega
  have h0 := gt.i0
  have ho : m.L[b].o = (k : Int) := (h.own k t b _ hk (List.getElem?_eq_getElem hbl)).2 (.inr (.inr ⟨hs, t.i.toNat, x, by omega, hx, hb⟩))
  have hv := h.ver k t b _ hk (List.getElem?_eq_getElem hbl) ho (by omega)
  have hma := may_at hg.may b hbl
  have hw := (hO.t4 k t hk (by omega)).2
  refine ⟨b, hb, hbl, ho, hv, ?_⟩
  rw [hb, give_in hg.may hbl (by omega) (by omega) (by omega) hw, if_pos ho, if_neg (by omega), Int.max_eq_right (by omega)]
theorem LockI.back (hg : Good words pl m) (hO : OrdI m) (h : LockI m) (gt : GoodT words txs t) (hk : m.T[k]? = some t) (hs : t.st = 5) {x : Pr} (hx : t.W[t.i.toNat]? = some x)
    (hL : m'.L = (giveL m.now m.mx m.L x.at_ (k : Int) t.wv).2) (hT : m'.T = m.T.set k (if t.i + 1 = t.W.length then overT t 0 else { t with i := t.i + 1 })) : LockI (timeM m') := by
  obtain ⟨b, hb, hbl, ho, hv, e⟩ := give_back hg hO h gt hk hs hx
  rw [e] at hL
  simp only at hL
  have h0 := gt.i0
  have hix : t.i.toNat < t.W.length := (List.getElem?_eq_some_iff.1 hx).1
  have ht0 : ∀ a : Nat, HeldBy t a ↔ ∃ (j : Nat) (p : Pr), t.i ≤ (j : Int) ∧ t.W[j]? = some p ∧ p.at_ = (a : Int) := by
    intro a
    unfold HeldBy
    constructor
    · rintro (⟨h1, _⟩ | ⟨h1, _⟩ | ⟨_, h⟩)
      · omega
      · omega
      · exact h
    · exact fun h => .inr (.inr ⟨hs, h⟩)
  have hnew : ∀ a : Nat, HeldBy (if t.i + 1 = t.W.length then overT t 0 else { t with i := t.i + 1 }) a ↔ (a ≠ b ∧ HeldBy t a) := by
    intro a
    rw [ht0]
    by_cases hl : t.i + 1 = (t.W.length : Int)
    · rw [if_pos hl]
      refine ⟨fun hh => absurd hh (HeldBy.low (by rw [overT_st]; omega)), ?_⟩
      rintro ⟨hne, j, p, hj, hp, hpa⟩
      have hjl := (List.getElem?_eq_some_iff.1 hp).1
      have : j = t.i.toNat := by omega
      subst this
      rw [hp] at hx
      injection hx with hx
      rw [hx] at hpa
      omega
    · rw [if_neg hl]
      constructor
      · rintro (⟨h1, _⟩ | ⟨h1, _⟩ | ⟨_, j, p, hj, hp, hpa⟩)
        · have : t.st = 2 := h1; omega
        · have : t.st = 3 ∨ t.st = 4 := h1; omega
        · replace hj : t.i + 1 ≤ (j : Int) := hj
          have := (pairwise_idx.1 gt.ws) t.i.toNat j x p hx hp (by omega)
          exact ⟨by omega, j, p, by omega, hp, hpa⟩
      · rintro ⟨hne, j, p, hj, hp, hpa⟩
        refine .inr (.inr ⟨hs, j, p, ?_, hp, hpa⟩)
        show t.i + 1 ≤ (j : Int)
        by_cases hji : (j : Int) = t.i
        · have : j = t.i.toNat := by omega
          subst this
          rw [hp] at hx
          injection hx with hx
          rw [hx] at hpa
          omega
        · omega
  have hld : ∀ (a : Nat) l, m'.L[a]? = some l → (a = b ∧ l.o = -1) ∨ (a ≠ b ∧ m.L[a]? = some l) := by
    intro a l hl
    rw [hL] at hl
    rcases set_get hl with ⟨rfl, rfl⟩ | h2
    · exact .inl ⟨rfl, rfl⟩
    · exact .inr h2
  refine ⟨fun j u a l hu hl => ?_, fun a l hl => ?_, fun j u a l hu hl ho2 hst => ?_⟩
  · replace hu : m'.T[j]? = some u := hu
    rw [hT] at hu
    rcases hld a l hl with ⟨rfl, ho2⟩ | ⟨hne, hl⟩
    · rcases set_get hu with ⟨rfl, rfl⟩ | ⟨hjk, hu⟩
      · rw [hnew]
        exact ⟨fun h5 => by omega, fun h5 => absurd rfl h5.1⟩
      · rw [← h.own j u a m.L[a] hu (List.getElem?_eq_getElem hbl)]
        constructor
        · intro h5; omega
        · intro h5; omega
    · rcases set_get hu with ⟨rfl, rfl⟩ | ⟨hjk, hu⟩
      · rw [hnew, h.own _ t a l hk hl]
        exact ⟨fun h5 => ⟨hne, h5⟩, fun h5 => h5.2⟩
      · exact h.own j u a l hu hl
  · rcases hld a l hl with ⟨rfl, ho2⟩ | ⟨hne, hl⟩
    · exact .inl ho2
    · rcases h.who a l hl with h4 | ⟨j, u, h4, h5⟩
      · exact .inl h4
      · obtain ⟨u', hu'⟩ := set_some h5 k (if t.i + 1 = t.W.length then overT t 0 else { t with i := t.i + 1 })
        exact .inr ⟨j, u', h4, by show m'.T[j]? = _; rw [hT]; exact hu'⟩
  · replace hu : m'.T[j]? = some u := hu
    rw [hT] at hu
    rcases hld a l hl with ⟨rfl, ho3⟩ | ⟨hne, hl⟩
    · omega
    · rcases set_get hu with ⟨rfl, rfl⟩ | ⟨hjk, hu⟩
      · have := h.ver _ t a l hk hl ho2 (by omega)
        split
        · rename_i e2
          rw [if_pos e2, overT_st] at hst
          omega
        · exact this
      · exact h.ver j u a l hu hl ho2 hst

theorem lock_way (hg : Good words pl m) (hO : OrdI m) (h : LockI m) (hk : m.T[k]? = some t) (htx : pl[k]? = some txs) (hw : Way txs m k t m') : LockI (timeM m') := by
  have gt := hg.ts k t txs hk htx
  have hlow : ∀ (u v : Tx), u.st < 2 → v.st < 2 → ∀ a, HeldBy u a ↔ HeldBy v a := fun u v h1 h2 a => ⟨fun hh => absurd hh (HeldBy.low h1), fun hh => absurd hh (HeldBy.low h2)⟩
  cases hw with
  | begins hs => exact h.same hk rfl rfl (hlow _ _ (by show (1 : Int) < 2; omega) (by omega)) (fun h4 => absurd (show (4 : Int) ≤ 1 from h4) (by omega))
  | writes hs a ha hd u => exact h.same hk rfl rfl (hlow _ _ (by show t.st < 2; omega) (by omega)) (fun h4 => absurd (show (4 : Int) ≤ t.st from h4) (by omega))
  | own hs a ha hd p hp hpa u => exact h.same hk rfl rfl (hlow _ _ (by show t.st < 2; omega) (by omega)) (fun h4 => absurd (show (4 : Int) ≤ t.st from h4) (by omega))
  | reads hs a ha hd hn hs2 u => exact h.same hk rfl rfl (hlow _ _ (by show t.st < 2; omega) (by omega)) (fun h4 => absurd (show (4 : Int) ≤ t.st from h4) (by omega))
  | blind hs a ha hd hn hs2 => exact h.same (m' := endM m k t 1) hk rfl rfl (hlow _ _ (by rw [overT_st]; omega) (by omega)) (fun h4 => by rw [overT_st] at h4; omega)
  | readonly hs hpc hW => exact h.same (m' := endM m k t 0) hk rfl rfl (hlow _ _ (by rw [overT_st]; omega) (by omega)) (fun h4 => by rw [overT_st] at h4; omega)
  | holds hs hpc hW =>
    refine h.same (t' := { t with st := 2, i := 0 }) hk rfl rfl (fun a => ⟨fun hh => ?_, fun hh => absurd hh (HeldBy.low (by omega))⟩) (fun h4 => absurd (show (4 : Int) ≤ 2 from h4) (by omega))
    rcases hh with ⟨_, j, p, hj, _⟩ | ⟨h1, _⟩ | ⟨h1, _⟩
    · have : (j : Int) < 0 := hj; omega
    · have : (2 : Int) = 3 ∨ (2 : Int) = 4 := h1; omega
    · have : (2 : Int) = 5 := h1; omega
  | takes hs x hx ht => exact h.take hg gt hk hs hx ht rfl rfl
  | clash hs x hx ht => exact h.drop (m' := quitM m k t 1) rfl rfl (by rw [overT_st]; omega)
  | ticks hs ht =>
    refine h.same (t' := { t with wv := (tickL m.now m.mx m.L).2.1, st := 4, i := 0 }) hk rfl rfl (fun a => ⟨fun hh => ?_, fun hh => ?_⟩) (fun _ a l hl ho => ?_)
    · rcases hh with ⟨h1, _⟩ | ⟨_, h2⟩ | ⟨h1, _⟩
      · have : (4 : Int) = 2 := h1; omega
      · exact .inr (.inl ⟨.inl hs, h2⟩)
      · have : (4 : Int) = 5 := h1; omega
    · rcases hh with ⟨h1, _⟩ | ⟨_, h2⟩ | ⟨h1, _⟩
      · omega
      · exact .inr (.inl ⟨.inr rfl, h2⟩)
      · omega
    · show l.v < (tickL m.now m.mx m.L).2.1
      rcases tick_cases hg.may with ⟨_, e⟩ | ⟨hlt, e⟩
      · rw [e] at ht; simp at ht
      · rw [e]
        obtain ⟨h1, rfl⟩ := List.getElem?_eq_some_iff.1 hl
        have := may_at hg.may a h1
        show m.L[a].v < m.now + 1
        omega
  | late hs ht => exact h.drop (m' := quitM m k t 2) rfl rfl (by rw [overT_st]; omega)
  | checks hs x hx hs2 =>
    refine h.same (t' := { t with i := t.i + 1 }) hk rfl rfl (fun a => ⟨fun hh => ?_, fun hh => ?_⟩) (fun _ a l hl ho => h.ver k t a l hk hl ho (by omega))
    · rcases hh with ⟨h1, _⟩ | ⟨_, h2⟩ | ⟨h1, _⟩
      · have : t.st = 2 := h1; omega
      · exact .inr (.inl ⟨.inr hs, h2⟩)
      · have : t.st = 5 := h1; omega
    · rcases hh with ⟨h1, _⟩ | ⟨_, h2⟩ | ⟨h1, _⟩
      · omega
      · exact .inr (.inl ⟨.inr hs, h2⟩)
      · omega
  | stale hs x hx hs2 => exact h.drop (m' := quitM m k t 1) rfl rfl (by rw [overT_st]; omega)
  | done hs hx =>
    refine h.same (m' := { tellM m k t 0 with T := m.T.set k { t with st := 5, i := 0 } }) (t' := { t with st := 5, i := 0 }) hk rfl rfl (fun a => ⟨fun hh => ?_, fun hh => ?_⟩) (fun _ a l hl ho => h.ver k t a l hk hl ho (by omega))
    · rcases hh with ⟨h1, _⟩ | ⟨h1, _⟩ | ⟨_, j, p, _, hp, hpa⟩
      · have : (5 : Int) = 2 := h1; omega
      · have : (5 : Int) = 3 ∨ (5 : Int) = 4 := h1; omega
      · exact .inr (.inl ⟨.inr hs, p, List.mem_of_getElem? hp, hpa⟩)
    · rcases hh with ⟨h1, _⟩ | ⟨_, p, hp, hpa⟩ | ⟨h1, _⟩
      · omega
      · obtain ⟨j, hj, rfl⟩ := List.getElem_of_mem hp
        exact .inr (.inr ⟨rfl, j, _, (by show (0 : Int) ≤ j; omega), List.getElem?_eq_getElem hj, hpa⟩)
      · omega
  | backs hs x hx => exact h.back hg hO gt hk hs hx rfl rfl
theorem lock_run (hp : PlanOk words mx pl) (picks : List Int) : OrdI (runM words mx pl picks) ∧ LockI (runM words mx pl picks) := by
  refine run_ind hp (P := fun m => OrdI m ∧ LockI m) ⟨ord_run hp [], ?_⟩ (fun m k t txs m' hg h hk htx _ hw => ⟨ord_way hg h.1 hk htx hw, lock_way hg h.1 h.2 hk htx hw⟩) (fun m h => ⟨⟨h.1.t1, h.1.t4, h.1.hs⟩, ⟨h.2.own, h.2.who, h.2.ver⟩⟩) picks
  have hl : ∀ (a : Nat) l, (initM words mx pl.length).L[a]? = some l → l.o = -1 := by
    intro a l hl
    simp only [initM] at hl
    rw [List.eq_of_mem_replicate (List.mem_of_getElem? hl)]
  have ht : ∀ (a : Nat) t, (initM words mx pl.length).T[a]? = some t → t.st = 0 := by
    intro a l hl
    simp only [initM] at hl
    rw [List.eq_of_mem_replicate (List.mem_of_getElem? hl)]
    rfl
  exact ⟨fun k t a l h1 h2 => ⟨fun h => by have := hl a l h2; omega, fun h => absurd h (HeldBy.low (by have := ht k t h1; omega))⟩, fun a l h => .inl (hl a l h), fun k t a l h1 h2 h3 => by have := hl a l h2; omega⟩
end
end Go.Proofs.Ytmcbnpeihedcaaa
namespace Go.Proofs.Ytmcbnpeihedcaaa
set_option linter.unusedSimpArgs false
open Go
set_option linter.unusedVariables false

/-- Writes a try that is done this word? -/
def Wr (x : Rx) (a : Int) : Prop := x.en = 0 ∧ ∃ p ∈ x.W, p.at_ = a
def WT (t : Tx) (a : Int) : Prop := ∃ p ∈ t.W, p.at_ = a
def DoneX (x : Rx) : Prop := x.en = 0 ∧ x.W ≠ []
/-- A word's value at a version. -/
def LastW (H : List Rx) (ver a v : Int) : Prop :=
  (∃ x ∈ H, x.en = 0 ∧ x.wv ≤ ver ∧ (⟨a, v⟩ : Pr) ∈ x.W ∧ ∀ y ∈ H, Wr y a → y.wv ≤ ver → y.wv ≤ x.wv) ∨ (v = 0 ∧ ∀ y ∈ H, Wr y a → ver < y.wv)
noncomputable def lst (x : Rx) : Int := open Classical in if x.en = 0 ∧ x.W ≠ [] then x.wv else x.rv
theorem Wr.done {x : Rx} {a : Int} (h : Wr x a) : DoneX x := ⟨h.1, fun e => by obtain ⟨_, p, hp, _⟩ := h; rw [e] at hp; cases hp⟩
theorem LastW.add {H : List Rx} {ver a v : Int} {z : Rx} (h : LastW H ver a v) (hz : Wr z a → ver < z.wv) : LastW (H ++ [z]) ver a v := by
  rcases h with ⟨x, hx, h1, h2, h3, h4⟩ | ⟨h1, h2⟩
  · refine .inl ⟨x, List.mem_append_left _ hx, h1, h2, h3, fun y hy hw hle => ?_⟩
    rcases List.mem_append.1 hy with hy | hy
    · exact h4 y hy hw hle
    · obtain rfl := List.mem_singleton.1 hy
      have := hz hw
      omega
  · refine .inr ⟨h1, fun y hy hw => ?_⟩
    rcases List.mem_append.1 hy with hy | hy
    · exact h2 y hy hw
    · obtain rfl := List.mem_singleton.1 hy
      exact hz hw
theorem LastW.up {H : List Rx} {v1 v2 a v : Int} (h : LastW H v1 a v) (h12 : v1 ≤ v2) (hn : ∀ y ∈ H, Wr y a → y.wv ≤ v2 → y.wv ≤ v1) : LastW H v2 a v := by
  rcases h with ⟨x, hx, h1, h2, h3, h4⟩ | ⟨h1, h2⟩
  · exact .inl ⟨x, hx, h1, by omega, h3, fun y hy hw hle => h4 y hy hw (hn y hy hw hle)⟩
  · refine .inr ⟨h1, fun y hy hw => ?_⟩
    have := h2 y hy hw
    rcases Int.lt_or_le v2 y.wv with h | h
    · exact h
    · have := hn y hy hw h; omega

/-- One who checks. -/
structure Chk (m : Mm) (k : Nat) (t : Tx) : Prop where
  rd : ∀ j u, j ≠ k → m.T[j]? = some u → ∀ p ∈ u.R, WT t p.at_ → u.rv < t.wv
  rx : ∀ x ∈ m.H, ∀ p ∈ x.R, WT t p.at_ → x.rv < t.wv
  ct : ∀ (i : Nat) p, (i : Int) < t.i → t.R[i]? = some p → (∀ x ∈ m.H, Wr x p.at_ → x.wv < t.wv → x.wv ≤ t.rv) ∧ (∀ j d, j ≠ k → m.T[j]? = some d → d.st = 4 → WT d p.at_ → d.wv < t.wv → d.wv ≤ t.rv)
  co : ∀ j c, j ≠ k → m.T[j]? = some c → c.st = 4 → ∀ (i : Nat) p, (i : Int) < c.i → c.R[i]? = some p → WT t p.at_ → t.wv < c.wv → t.wv ≤ c.rv
  cx : ∀ x ∈ m.H, DoneX x → ∀ p ∈ x.R, WT t p.at_ → t.wv < x.wv → t.wv ≤ x.rv
  dt : ∀ x ∈ m.H, DoneX x → x.wv ≠ t.wv
  dd : ∀ j u, j ≠ k → m.T[j]? = some u → u.st = 4 → u.wv ≠ t.wv

structure SerI (words : Nat) (m : Mm) : Prop where
  val : ∀ (a : Nat) l v, m.L[a]? = some l → m.W[a]? = some v → LastW m.H l.v a v
  top : ∀ (a : Nat) l x, m.L[a]? = some l → x ∈ m.H → Wr x a → x.wv ≤ l.v ∨ ∃ (k : Nat) (t : Tx), m.T[k]? = some t ∧ t.st = 5 ∧ HeldBy t a ∧ x.wv = t.wv
  pend : ∀ (k : Nat) t, m.T[k]? = some t → t.st = 5 → ∃ x ∈ m.H, x.en = 0 ∧ x.wv = t.wv ∧ x.W = t.W
  rt : ∀ (k : Nat) t, m.T[k]? = some t → ∀ p ∈ t.R, LastW m.H t.rv p.at_ p.v
  rx : ∀ x ∈ m.H, ∀ p ∈ x.R, LastW m.H x.rv p.at_ p.v
  chk : ∀ (k : Nat) t, m.T[k]? = some t → t.st = 4 → Chk m k t
  cx : ∀ x ∈ m.H, DoneX x → ∀ p ∈ x.R, ∀ y ∈ m.H, Wr y p.at_ → y.wv < x.wv → y.wv ≤ x.rv
  dx : m.H.Pairwise (fun x y => DoneX x → DoneX y → x.wv ≠ y.wv)
  ex : ∀ x ∈ m.H, ∀ y ∈ m.H, x.to_ < y.fr → lst x ≤ y.rv
  et : ∀ x ∈ m.H, ∀ (k : Nat) t, m.T[k]? = some t → 1 ≤ t.st → x.to_ < t.fr → lst x ≤ t.rv
  fx : ∀ x ∈ m.H, x.fr ≤ m.time
  ft : ∀ (k : Nat) t, m.T[k]? = some t → 1 ≤ t.st → t.fr ≤ m.time
  ra : ∀ x ∈ m.H, ∀ p ∈ x.R, 0 ≤ p.at_ ∧ p.at_ < (words : Int)
  z : ∀ (k : Nat) t, m.T[k]? = some t → t.st = 0 → t.R = []

section
variable {words : Nat} {mx : Int} {pl : List (List (List Ac))} {m m' : Mm} {k : Nat} {t t' : Tx} {txs : List (List Ac)}

/-- A thread moves, no try is told. -/
theorem SerI.thr (h : SerI words m) (hk : m.T[k]? = some t) (hT : m'.T = m.T.set k t') (hH : m'.H = m.H) (htm : m.time ≤ m'.time)
    (hval : ∀ (a : Nat) l v, m'.L[a]? = some l → m'.W[a]? = some v → LastW m.H l.v a v)
    (htop : ∀ (a : Nat) l x, m'.L[a]? = some l → x ∈ m.H → Wr x a → x.wv ≤ l.v ∨ ∃ (k : Nat) (t : Tx), m'.T[k]? = some t ∧ t.st = 5 ∧ HeldBy t a ∧ x.wv = t.wv)
    (hpend : t'.st = 5 → ∃ x ∈ m.H, x.en = 0 ∧ x.wv = t'.wv ∧ x.W = t'.W)
    (hrt : ∀ p ∈ t'.R, LastW m.H t'.rv p.at_ p.v)
    (hst : ∀ j c, j ≠ k → m.T[j]? = some c → c.st = 4 → ∀ p ∈ t'.R, WT c p.at_ → t'.rv < c.wv)
    (het : 1 ≤ t'.st → ∀ x ∈ m.H, x.to_ < t'.fr → lst x ≤ t'.rv)
    (hft : 1 ≤ t'.st → t'.fr ≤ m'.time)
    (hz : t'.st = 0 → t'.R = [])
    (h4 : t'.st = 4 → Chk m k t') : SerI words m' := by
  have get : ∀ {j : Nat} {u : Tx}, m'.T[j]? = some u → (j = k ∧ u = t') ∨ (j ≠ k ∧ m.T[j]? = some u) := fun hu => by rw [hT] at hu; exact set_get hu
  refine ⟨fun a l v hl hv => by rw [hH]; exact hval a l v hl hv, fun a l x hl hx hw => by rw [hH] at hx; exact htop a l x hl hx hw, fun j u hu h5 => ?_, fun j u hu => ?_, fun x hx => by rw [hH] at hx ⊢; exact h.rx x hx, fun j u hu hs => ?_,
    fun x hx => by rw [hH] at hx ⊢; exact h.cx x hx, by rw [hH]; exact h.dx, fun x hx y hy => by rw [hH] at hx hy; exact h.ex x hx y hy, fun x hx j u hu hs => ?_, fun x hx => by rw [hH] at hx; have := h.fx x hx; omega, fun j u hu hs => ?_,
    fun x hx => by rw [hH] at hx; exact h.ra x hx, fun j u hu hs => ?_⟩
  · rw [hH]
    rcases get hu with ⟨rfl, rfl⟩ | ⟨hne, hu⟩
    · exact hpend h5
    · exact h.pend j u hu h5
  · rw [hH]
    rcases get hu with ⟨rfl, rfl⟩ | ⟨hne, hu⟩
    · exact hrt
    · exact h.rt j u hu
  · rcases get hu with ⟨rfl, rfl⟩ | ⟨hne, hu⟩
    · have hc := h4 hs
      refine ⟨fun i v hi hv => ?_, by rw [hH]; exact hc.rx, fun i p hi hp => ⟨by rw [hH]; exact (hc.ct i p hi hp).1, fun i2 d hi2 hd => ?_⟩, fun i c hi hcc => ?_, by rw [hH]; exact hc.cx, by rw [hH]; exact hc.dt, fun i v hi hv => ?_⟩
      · rcases get hv with ⟨e, _⟩ | ⟨_, hv⟩
        · exact absurd e hi
        · exact hc.rd i v hi hv
      · rcases get hd with ⟨e, _⟩ | ⟨_, hd⟩
        · exact absurd e hi2
        · exact (hc.ct i p hi hp).2 i2 d hi2 hd
      · rcases get hcc with ⟨e, _⟩ | ⟨_, hcc⟩
        · exact absurd e hi
        · exact hc.co i c hi hcc
      · rcases get hv with ⟨e, _⟩ | ⟨_, hv⟩
        · exact absurd e hi
        · exact hc.dd i v hi hv
    · have hc := h.chk j u hu hs
      refine ⟨fun i v hi hv => ?_, by rw [hH]; exact hc.rx, fun i p hi hp => ⟨by rw [hH]; exact (hc.ct i p hi hp).1, fun i2 d hi2 hd hd4 hw hlt => ?_⟩, fun i c hi hcc hc4 i2 p hi2 hp hw hlt => ?_, by rw [hH]; exact hc.cx, by rw [hH]; exact hc.dt, fun i v hi hv hv4 => ?_⟩
      · rcases get hv with ⟨rfl, rfl⟩ | ⟨_, hv⟩
        · exact hst j u hne hu hs
        · exact hc.rd i v hi hv
      · rcases get hd with ⟨rfl, rfl⟩ | ⟨_, hd⟩
        · exact (h4 hd4).co j u hne hu hs i p hi hp hw hlt
        · exact (hc.ct i p hi hp).2 i2 d hi2 hd hd4 hw hlt
      · rcases get hcc with ⟨rfl, rfl⟩ | ⟨_, hcc⟩
        · exact ((h4 hc4).ct i2 p hi2 hp).2 j u hne hu hs hw hlt
        · exact hc.co i c hi hcc hc4 i2 p hi2 hp hw hlt
      · rcases get hv with ⟨rfl, rfl⟩ | ⟨_, hv⟩
        · exact fun e => (h4 hv4).dd j u hne hu hs e.symm
        · exact hc.dd i v hi hv hv4
  · rw [hH] at hx
    rcases get hu with ⟨rfl, rfl⟩ | ⟨hne, hu⟩
    · exact het hs x hx
    · exact h.et x hx j u hu hs
  · rcases get hu with ⟨rfl, rfl⟩ | ⟨hne, hu⟩
    · exact hft hs
    · have := h.ft j u hu hs; omega
  · rcases get hu with ⟨rfl, rfl⟩ | ⟨hne, hu⟩
    · exact hz hs
    · exact h.z j u hu hs

/-- .. that is not writing back, and the words stay. -/
theorem SerI.thr1 (h : SerI words m) (hk : m.T[k]? = some t) (hT : m'.T = m.T.set k t') (hH : m'.H = m.H) (htm : m.time ≤ m'.time)
    (hW : m'.W = m.W) (hL : ∀ (a : Nat) l', m'.L[a]? = some l' → ∃ l, m.L[a]? = some l ∧ l'.v = l.v) (n5 : t.st ≠ 5) (n5' : t'.st ≠ 5)
    (hrt : ∀ p ∈ t'.R, LastW m.H t'.rv p.at_ p.v)
    (hst : ∀ j c, j ≠ k → m.T[j]? = some c → c.st = 4 → ∀ p ∈ t'.R, WT c p.at_ → t'.rv < c.wv)
    (het : 1 ≤ t'.st → ∀ x ∈ m.H, x.to_ < t'.fr → lst x ≤ t'.rv)
    (hft : 1 ≤ t'.st → t'.fr ≤ m'.time)
    (hz : t'.st = 0 → t'.R = [])
    (h4 : t'.st = 4 → Chk m k t') : SerI words m' := by
  refine h.thr hk hT hH htm (fun a l v hl hv => ?_) (fun a l x hl hx hw => ?_) (fun h5 => absurd h5 n5') hrt hst het hft hz h4
  · obtain ⟨l0, h0, e⟩ := hL a l hl
    rw [hW] at hv
    rw [e]
    exact h.val a l0 v h0 hv
  · obtain ⟨l0, h0, e⟩ := hL a l hl
    rw [e]
    rcases h.top a l0 x h0 hx hw with h1 | ⟨j, u, h1, h2, h3⟩
    · exact .inl h1
    · refine .inr ⟨j, u, ?_, h2, h3⟩
      have hne : j ≠ k := by rintro rfl; rw [hk] at h1; injection h1 with h1; subst h1; exact n5 h2
      rw [hT, List.getElem?_set_ne (Ne.symm hne)]
      exact h1
/-- .. what it has read stays too. -/
theorem SerI.thr2 (h : SerI words m) (hk : m.T[k]? = some t) (hT : m'.T = m.T.set k t') (hH : m'.H = m.H) (htm : m.time ≤ m'.time)
    (hW : m'.W = m.W) (hL : ∀ (a : Nat) l', m'.L[a]? = some l' → ∃ l, m.L[a]? = some l ∧ l'.v = l.v) (n5 : t.st ≠ 5) (n5' : t'.st ≠ 5)
    (h1 : 1 ≤ t.st) (h1' : 1 ≤ t'.st) (hR : t'.R = t.R) (hrv : t'.rv = t.rv) (hfr : t'.fr = t.fr)
    (h4 : t'.st = 4 → Chk m k t') : SerI words m' := by
  refine h.thr1 hk hT hH htm hW hL n5 n5' ?_ ?_ ?_ ?_ (fun h => by omega) h4
  · rw [hR, hrv]; exact h.rt k t hk
  · intro j c hj hc hs
    rw [hR, hrv]
    exact (h.chk j c hc hs).rd k t (Ne.symm hj) hk
  · intro _ x hx
    rw [hfr, hrv]
    exact h.et x hx k t hk h1
  · intro _
    rw [hfr]
    have := h.ft k t hk h1
    omega

/-- A try is told that writes nothing, as the thread stands. -/
theorem SerI.tell (h : SerI words m) (hk : m.T[k]? = some t) (h1 : 1 ≤ t.st) (hO : t.st = 4 → t.rv < t.wv) (hra : ∀ p ∈ t.R, 0 ≤ p.at_ ∧ p.at_ < (words : Int)) {z : Rx} (hz : ¬ DoneX z) (hR : z.R = t.R) (hrv : z.rv = t.rv) (hfr : z.fr = t.fr) (hto : z.to_ = m.time) : SerI words { m with H := m.H ++ [z] } := by
  have nw : ∀ {a : Int}, ¬ Wr z a := fun hw => hz hw.done
  have mem : ∀ {x : Rx}, x ∈ m.H ++ [z] → x ∈ m.H ∨ x = z := fun hx => (List.mem_append.1 hx).imp id List.mem_singleton.1
  have hft := h.ft k t hk h1
  have hl : lst z = z.rv := if_neg hz
  refine ⟨fun a l v hl hv => (h.val a l v hl hv).add (fun hw => absurd hw nw), fun a l x hl hx hw => ?_, fun j u hu h5 => ?_, fun j u hu p hp => (h.rt j u hu p hp).add (fun hw => absurd hw nw), fun x hx p hp => ?_, fun j u hu hs => ?_, fun x hx hd p hp y hy hw => ?_, ?_, fun x hx y hy hlt => ?_, fun x hx j u hu hs hlt => ?_, fun x hx => ?_, h.ft, fun x hx => ?_, h.z⟩
  · rcases mem hx with hx | rfl
    · exact h.top a l x hl hx hw
    · exact absurd hw nw
  · obtain ⟨x, hx, h2⟩ := h.pend j u hu h5
    exact ⟨x, List.mem_append_left _ hx, h2⟩
  · rcases mem hx with hx | rfl
    · exact (h.rx x hx p hp).add (fun hw => absurd hw nw)
    · rw [hR] at hp
      rw [hrv]
      exact (h.rt k t hk p hp).add (fun hw => absurd hw nw)
  · have hc := h.chk j u hu hs
    refine ⟨hc.rd, fun x hx p hp hw => ?_, fun i p hi hp => ⟨fun x hx hw => ?_, (hc.ct i p hi hp).2⟩, hc.co, fun x hx hd => ?_, fun x hx hd => ?_, hc.dd⟩
    · rcases mem hx with hx | rfl
      · exact hc.rx x hx p hp hw
      · rw [hR] at hp
        rw [hrv]
        by_cases e : k = j
        · subst e
          rw [hk] at hu; injection hu with hu; subst hu
          exact hO hs
        · exact hc.rd k t e hk p hp hw
    · rcases mem hx with hx | rfl
      · exact (hc.ct i p hi hp).1 x hx hw
      · exact absurd hw nw
    · rcases mem hx with hx | rfl
      · exact hc.cx x hx hd
      · exact absurd hd hz
    · rcases mem hx with hx | rfl
      · exact hc.dt x hx hd
      · exact absurd hd hz
  · rcases mem hy with hy | rfl
    · rcases mem hx with hx | rfl
      · exact h.cx x hx hd p hp y hy hw
      · exact absurd hd hz
    · exact absurd hw nw
  · rw [List.pairwise_append]
    refine ⟨h.dx, List.pairwise_singleton _ _, fun x hx y hy _ hd => ?_⟩
    obtain rfl := List.mem_singleton.1 hy
    exact absurd hd hz
  · rcases mem hy with hy2 | rfl
    · rcases mem hx with hx | rfl
      · exact h.ex x hx y hy2 hlt
      · have := h.fx y hy2; omega
    · rw [hfr] at hlt
      rcases mem hx with hx | rfl
      · rw [hrv]; exact h.et x hx k t hk h1 hlt
      · omega
  · rcases mem hx with hx | rfl
    · exact h.et x hx j u hu hs hlt
    · have := h.ft j u hu hs; omega
  · rcases mem hx with hx | rfl
    · exact h.fx x hx
    · show x.fr ≤ m.time; omega
  · rcases mem hx with hx | rfl
    · exact h.ra x hx
    · rw [hR]; exact hra
theorem SerI.time (h : SerI words m) : SerI words (timeM m) :=
  ⟨h.val, h.top, h.pend, h.rt, h.rx, fun k t hk hs => ⟨(h.chk k t hk hs).rd, (h.chk k t hk hs).rx, (h.chk k t hk hs).ct, (h.chk k t hk hs).co, (h.chk k t hk hs).cx, (h.chk k t hk hs).dt, (h.chk k t hk hs).dd⟩, h.cx, h.dx, h.ex, h.et,
    fun x hx => by have := h.fx x hx; show x.fr ≤ m.time + 1; omega, fun k t hk hs => by have := h.ft k t hk hs; show t.fr ≤ m.time + 1; omega, h.ra, h.z⟩
theorem SerI.done (hO : OrdI m) (hLk : LockI m) (h : SerI words m) (gt : GoodT words txs t) (hk : m.T[k]? = some t) (hs : t.st = 4) (hx : t.R[t.i.toNat]? = none) :
    SerI words { tellM m k t 0 with T := m.T.set k { t with st := 5, i := 0 } } := by
  have hc := h.chk k t hk hs
  have hrw := hO.t4 k t hk (by omega)
  have h0 := gt.i0
  have hidx : ∀ p ∈ t.R, ∃ i : Nat, (i : Int) < t.i ∧ t.R[i]? = some p := by
    intro p hp
    obtain ⟨i, hi, rfl⟩ := List.getElem_of_mem hp
    refine ⟨i, ?_, List.getElem?_eq_getElem hi⟩
    rw [List.getElem?_eq_none_iff] at hx
    omega
  have mem : ∀ {x : Rx}, x ∈ m.H ++ [tellR m k t 0] → x ∈ m.H ∨ x = tellR m k t 0 := fun hx => (List.mem_append.1 hx).imp id List.mem_singleton.1
  have get : ∀ {j : Nat} {u : Tx}, (m.T.set k { t with st := 5, i := 0 })[j]? = some u → (j = k ∧ u = { t with st := 5, i := 0 }) ∨ (j ≠ k ∧ m.T[j]? = some u) := fun hu => set_get hu
  have hwz : ∀ {a : Int}, Wr (tellR m k t 0) a ↔ WT t a := fun {a} => ⟨fun h => h.2, fun h => ⟨rfl, h⟩⟩
  have hft := h.ft k t hk (by omega)
  have hne0 : t.W ≠ [] := fun e => by have := gt.w0 (by omega); rw [e] at this; simp at this
  have hmem : tellR m k t 0 ∈ m.H ++ [tellR m k t 0] := List.mem_append_right _ (List.mem_singleton.2 rfl)
  refine ⟨fun a l v hl hv => ?_, fun a l x hl hx hw => ?_, fun j u hu h5 => ?_, fun j u hu p hp => ?_, fun x hx p hp => ?_, fun j u hu hs4 => ?_, fun x hx hd p hp y hy hw hlt => ?_, ?_, fun x hx y hy hlt => ?_, fun x hx j u hu hs1 hlt => ?_, fun x hx => ?_, fun j u hu hs1 => ?_, fun x hx => ?_, fun j u hu hs0 => ?_⟩
  · refine (h.val a l v hl hv).add (fun hw => ?_)
    have ho := (hLk.own k t a l hk hl).2 (.inr (.inl ⟨.inr hs, hwz.1 hw⟩))
    exact hLk.ver k t a l hk hl ho (by omega)
  · rcases mem hx with hx | rfl
    · rcases h.top a l x hl hx hw with h1 | ⟨j, u, h1, h2, h3⟩
      · exact .inl h1
      · refine .inr ⟨j, u, ?_, h2, h3⟩
        have hne : j ≠ k := by rintro rfl; rw [hk] at h1; injection h1 with h1; subst h1; omega
        show (m.T.set k _)[j]? = _
        rw [List.getElem?_set_ne (Ne.symm hne)]
        exact h1
    · refine .inr ⟨k, { t with st := 5, i := 0 }, ?_, rfl, ?_, rfl⟩
      · show (m.T.set k _)[k]? = _
        rw [List.getElem?_set_self (List.getElem?_eq_some_iff.1 hk).1]
      · obtain ⟨p, hp, hpa⟩ := hwz.1 hw
        obtain ⟨i, hi, rfl⟩ := List.getElem_of_mem hp
        exact .inr (.inr ⟨rfl, i, _, (by show (0 : Int) ≤ i; omega), List.getElem?_eq_getElem hi, hpa⟩)
  · rcases get hu with ⟨rfl, rfl⟩ | ⟨hne, hu⟩
    · exact ⟨_, hmem, rfl, rfl, rfl⟩
    · obtain ⟨x, hx, h2⟩ := h.pend j u hu h5
      exact ⟨x, List.mem_append_left _ hx, h2⟩
  · rcases get hu with ⟨rfl, rfl⟩ | ⟨hne, hu⟩
    · exact (h.rt _ t hk p hp).add (fun _ => hrw.1)
    · exact (h.rt j u hu p hp).add (fun hw => hc.rd j u hne hu p hp (hwz.1 hw))
  · rcases mem hx with hx | rfl
    · exact (h.rx x hx p hp).add (fun hw => hc.rx x hx p hp (hwz.1 hw))
    · exact (h.rt k t hk p hp).add (fun _ => hrw.1)
  · rcases get hu with ⟨rfl, rfl⟩ | ⟨hne, hu⟩
    · exact absurd hs4 (by show ¬ (5 : Int) = 4; omega)
    · have hcu := h.chk j u hu hs4
      refine ⟨fun i v hi hv => ?_, fun x hx p hp hw => ?_, fun i p hi hp => ⟨fun x hx hw hlt => ?_, fun i2 d hi2 hd hd4 hw hlt => ?_⟩, fun i c hi hcc hc4 => ?_, fun x hx hd p hp hw hlt => ?_, fun x hx hd => ?_, fun i v hi hv hv4 => ?_⟩
      · rcases get hv with ⟨rfl, rfl⟩ | ⟨_, hv⟩
        · exact hcu.rd _ t hi hk
        · exact hcu.rd i v hi hv
      · rcases mem hx with hx | rfl
        · exact hcu.rx x hx p hp hw
        · exact hcu.rd k t (Ne.symm hne) hk p hp hw
      · rcases mem hx with hx | rfl
        · exact (hcu.ct i p hi hp).1 x hx hw hlt
        · exact (hcu.ct i p hi hp).2 k t (Ne.symm hne) hk hs (hwz.1 hw) hlt
      · rcases get hd with ⟨rfl, rfl⟩ | ⟨_, hd⟩
        · exact absurd hd4 (by show ¬ (5 : Int) = 4; omega)
        · exact (hcu.ct i p hi hp).2 i2 d hi2 hd hd4 hw hlt
      · rcases get hcc with ⟨rfl, rfl⟩ | ⟨_, hcc⟩
        · exact absurd hc4 (by show ¬ (5 : Int) = 4; omega)
        · exact hcu.co i c hi hcc hc4
      · rcases mem hx with hx | rfl
        · exact hcu.cx x hx hd p hp hw hlt
        · obtain ⟨i, hi, hpi⟩ := hidx p hp
          exact (hc.ct i p hi hpi).2 j u hne hu hs4 hw hlt
      · rcases mem hx with hx | rfl
        · exact hcu.dt x hx hd
        · exact hcu.dd k t (Ne.symm hne) hk hs
      · rcases get hv with ⟨rfl, rfl⟩ | ⟨_, hv⟩
        · exact absurd hv4 (by show ¬ (5 : Int) = 4; omega)
        · exact hcu.dd i v hi hv hv4
  · rcases mem hx with hx | rfl
    · rcases mem hy with hy | rfl
      · exact h.cx x hx hd p hp y hy hw hlt
      · exact hc.cx x hx hd p hp (hwz.1 hw) hlt
    · rcases mem hy with hy | rfl
      · obtain ⟨i, hi, hpi⟩ := hidx p hp
        exact (hc.ct i p hi hpi).1 y hy hw hlt
      · exact absurd hlt (Int.lt_irrefl _)
  · show (m.H ++ [tellR m k t 0]).Pairwise _
    rw [List.pairwise_append]
    refine ⟨h.dx, List.pairwise_singleton _ _, fun x hx y hy hd _ => ?_⟩
    obtain rfl := List.mem_singleton.1 hy
    exact hc.dt x hx hd
  · rcases mem hy with hy | rfl
    · rcases mem hx with hx | rfl
      · exact h.ex x hx y hy hlt
      · have := h.fx y hy
        have e : (tellR m k t 0).to_ = m.time := rfl
        omega
    · rcases mem hx with hx | rfl
      · exact h.et x hx k t hk (by omega) hlt
      · have e : (tellR m k t 0).to_ = m.time := rfl
        have e2 : (tellR m k t 0).fr = t.fr := rfl
        omega
  · have hz : ∀ (j : Nat) (v : Tx), m.T[j]? = some v → 1 ≤ v.st → x.to_ < v.fr → lst x ≤ v.rv := by
      intro j v hv hs1 hlt
      rcases mem hx with hx | rfl
      · exact h.et x hx j v hv hs1 hlt
      · have := h.ft j v hv hs1
        have e : (tellR m k t 0).to_ = m.time := rfl
        omega
    rcases get hu with ⟨rfl, rfl⟩ | ⟨hne, hu⟩
    · exact hz _ t hk (by omega) hlt
    · exact hz j u hu hs1 hlt
  · rcases mem hx with hx | rfl
    · exact h.fx x hx
    · exact hft
  · rcases get hu with ⟨rfl, rfl⟩ | ⟨hne, hu⟩
    · exact hft
    · exact h.ft j u hu hs1
  · rcases mem hx with hx | rfl
    · exact h.ra x hx
    · exact gt.ra
  · rcases get hu with ⟨rfl, rfl⟩ | ⟨hne, hu⟩
    · exact absurd hs0 (by show ¬ (5 : Int) = 0; omega)
    · exact h.z j u hu hs0

theorem sees_ok {now mx : Int} {ls : List Lk} {i ver who : Int} (h : seesL now mx ls i ver who = true) : ∃ b : Nat, i = (b : Int) ∧ ∃ hb : b < ls.length, (ls[b].o = -1 ∨ ls[b].o = who) ∧ ls[b].v ≤ ver := by
  unfold seesL at h
  split at h
  · rename_i hc
    rw [Bool.and_eq_true, decide_eq_true_eq] at h
    refine ⟨i.toNat, by omega, by omega, ?_, h.2⟩
    have := h.1
    unfold freeH at this
    simpa using this
  · cases h
/-- A word that is seen: nobody is about to write it. -/
theorem SerI.seen (hg : Good words pl m) (hLk : LockI m) (h : SerI words m) (hk : m.T[k]? = some t) (n5 : t.st ≠ 5) {a ver : Int} (hs : seesL m.now m.mx m.L a ver (k : Int) = true) :
    LastW m.H ver a (m.W.getD a.toNat 0) ∧ (∀ y ∈ m.H, Wr y a → y.wv ≤ ver) ∧ ∀ j c, j ≠ k → m.T[j]? = some c → c.st = 4 → ¬ WT c a := by
  obtain ⟨b, rfl, hb, ho, hv⟩ := sees_ok hs
  have hlb := List.getElem?_eq_getElem hb
  have hWb : b < m.W.length := by rw [hg.W, ← hg.L]; exact hb
  have hall : ∀ y ∈ m.H, Wr y (b : Int) → y.wv ≤ m.L[b].v := by
    intro y hy hw
    rcases h.top b _ y hlb hy hw with h1 | ⟨j, u, h1, h2, h3, _⟩
    · exact h1
    · have := (hLk.own j u b _ h1 hlb).2 h3
      have e : j = k := by omega
      subst e
      rw [hk] at h1; injection h1 with h1; subst h1
      exact absurd h2 n5
  refine ⟨?_, fun y hy hw => Int.le_trans (hall y hy hw) hv, fun j c hj hc hs4 hw => ?_⟩
  · have := h.val b _ m.W[b] hlb (List.getElem?_eq_getElem hWb)
    rw [Int.toNat_natCast, List.getD_eq_getElem?_getD, List.getElem?_eq_getElem hWb]
    exact this.up hv (fun y hy hw _ => hall y hy hw)
  · have := (hLk.own j c b _ hc hlb).2 (.inr (.inl ⟨.inr hs4, hw⟩))
    omega
theorem SerI.back (hg : Good words pl m) (hO : OrdI m) (hLk : LockI m) (h : SerI words m) (gt : GoodT words txs t) (hk : m.T[k]? = some t) (hs : t.st = 5) {x : Pr} (hx : t.W[t.i.toNat]? = some x) :
    SerI words { m with W := m.W.set x.at_.toNat x.v, L := (giveL m.now m.mx m.L x.at_ (k : Int) t.wv).2, T := m.T.set k (if t.i + 1 = t.W.length then overT t 0 else { t with i := t.i + 1 }) } := by
  obtain ⟨b, hb, hbl, ho, hv, e⟩ := give_back hg hO hLk gt hk hs hx
  have h0 := gt.i0
  obtain ⟨z, hz, z0, z1, z2⟩ := h.pend k t hk hs
  have hxm : x ∈ t.W := List.mem_of_getElem? hx
  have hnst : ∀ n : Int, 1 ≤ n → n ≠ 5 → (if t.i + 1 = t.W.length then overT t 0 else { t with i := t.i + 1 }).st ≠ n := by
    intro n h1 h2
    split
    · rw [overT_st]; omega
    · show t.st ≠ n; omega
  have hRR : (if t.i + 1 = t.W.length then overT t 0 else { t with i := t.i + 1 }).R = [] ∨ ((if t.i + 1 = t.W.length then overT t 0 else { t with i := t.i + 1 }).R = t.R ∧ (if t.i + 1 = t.W.length then overT t 0 else { t with i := t.i + 1 }).rv = t.rv) := by
    split
    · left; unfold overT; split <;> rfl
    · exact .inr ⟨rfl, rfl⟩
  refine h.thr hk rfl rfl (Int.le_refl _) (fun a l v hl hva => ?_) (fun a l y hl hy hw => ?_) (fun h5 => ?_) (fun p hp => ?_) (fun j c hj hc hs4 p hp hw => ?_) (fun h1 y hy hlt => ?_) (fun h1 => ?_) (fun hs0 => ?_) (fun h4 => absurd h4 (hnst 4 (by omega) (by omega)))
  · rw [e] at hl
    rw [hb, Int.toNat_natCast] at hva
    rcases set_get hl with ⟨rfl, rfl⟩ | ⟨hne, hl⟩
    · rcases set_get hva with ⟨_, rfl⟩ | ⟨hne, _⟩
      · refine .inl ⟨z, hz, z0, by show z.wv ≤ t.wv; omega, ?_, fun y hy hw hle => ?_⟩
        · rw [z2]
          have : (⟨(a : Int), x.v⟩ : Pr) = x := by cases x; simp only at hb; rw [← hb]
          rw [this]; exact hxm
        · show y.wv ≤ z.wv
          have : y.wv ≤ t.wv := hle
          omega
      · exact absurd rfl hne
    · rcases set_get hva with ⟨e2, _⟩ | ⟨_, hva⟩
      · exact absurd e2 hne
      · exact h.val a l v hl hva
  · rw [e] at hl
    rcases set_get hl with ⟨rfl, rfl⟩ | ⟨hne, hl⟩
    · left
      show y.wv ≤ t.wv
      rcases h.top a _ y (List.getElem?_eq_getElem hbl) hy hw with h1 | ⟨j, u, h1, h2, h3, h4⟩
      · omega
      · have := (hLk.own j u a _ h1 (List.getElem?_eq_getElem hbl)).2 h3
        have e : j = k := by omega
        subst e
        rw [hk] at h1; injection h1 with h1; subst h1
        omega
    · rcases h.top a l y hl hy hw with h1 | ⟨j, u, h1, h2, h3, h4⟩
      · exact .inl h1
      · right
        by_cases e : j = k
        · subst e
          rw [hk] at h1; injection h1 with h1; subst h1
          rcases h3 with ⟨h5, _⟩ | ⟨h5, _⟩ | ⟨_, i, p, hi, hp, hpa⟩
          · omega
          · omega
          · have hne2 : (i : Int) ≠ t.i := by
              intro e2
              have : i = t.i.toNat := by omega
              subst this
              rw [hp] at hx; injection hx with hx; subst hx
              omega
            have hlen := (List.getElem?_eq_some_iff.1 hp).1
            refine ⟨j, { t with i := t.i + 1 }, ?_, h2, .inr (.inr ⟨h2, i, p, (by show t.i + 1 ≤ (i : Int); omega), hp, hpa⟩), h4⟩
            show (m.T.set j _)[j]? = _
            rw [if_neg (by omega), List.getElem?_set_self (List.getElem?_eq_some_iff.1 hk).1]
        · refine ⟨j, u, ?_, h2, h3, h4⟩
          show (m.T.set k _)[j]? = _
          rw [List.getElem?_set_ne (Ne.symm e)]
          exact h1
  · split at h5
    · rw [overT_st] at h5; omega
    · rename_i hne
      rw [if_neg hne]
      exact ⟨z, hz, z0, z1, z2⟩
  · rcases hRR with h1 | ⟨h1, h2⟩
    · rw [h1] at hp; cases hp
    · rw [h1] at hp; rw [h2]; exact h.rt k t hk p hp
  · rcases hRR with h1 | ⟨h1, h2⟩
    · rw [h1] at hp; cases hp
    · rw [h1] at hp; rw [h2]; exact (h.chk j c hc hs4).rd k t (Ne.symm hj) hk p hp hw
  · split at h1
    · rw [overT_st] at h1; omega
    · rename_i hne
      rw [if_neg hne] at hlt ⊢
      exact h.et y hy k t hk (by omega) hlt
  · split at h1
    · rw [overT_st] at h1; omega
    · rename_i hne
      rw [if_neg hne]
      exact h.ft k t hk (by omega)
  · split at hs0
    · rename_i he
      rw [if_pos he]
      unfold overT; split <;> rfl
    · have : t.st = 0 := hs0; omega

theorem overT_R (t : Tx) (how : Int) : (overT t how).R = [] := by unfold overT; split <;> rfl
/-- A try that wrote nothing is over. -/
theorem SerI.over (hO : OrdI m) (h : SerI words m) (gt : GoodT words txs t) (hk : m.T[k]? = some t) (h1 : 1 ≤ t.st) (n5 : t.st ≠ 5) {how : Int} (hz : how ≠ 0 ∨ t.W = []) {L : List Lk} (hL : ∀ (a : Nat) l', L[a]? = some l' → ∃ l, m.L[a]? = some l ∧ l'.v = l.v) :
    SerI words (endM { m with L := L } k t how) := by
  have hs1 := h.tell hk h1 (fun h4 => (hO.t4 k t hk (by omega)).1) gt.ra (z := tellR m k t how) (fun hd => hz.elim (fun h2 => h2 hd.1) (fun h2 => hd.2 h2)) rfl rfl rfl rfl
  have hst := overT_st t how
  refine hs1.thr1 (m' := endM { m with L := L } k t how) (t' := overT t how) hk rfl rfl (Int.le_refl _) rfl hL n5 (by rw [hst]; omega) ?_ ?_ (fun h => by rw [hst] at h; omega) (fun h => by rw [hst] at h; omega) (fun _ => overT_R t how) (fun h => by rw [hst] at h; omega)
  · intro p hp
    rw [overT_R] at hp; cases hp
  · intro j c _ _ _ p hp
    rw [overT_R] at hp; cases hp

theorem ser_way (hg : Good words pl m) (hO : OrdI m) (hLk : LockI m) (h : SerI words m) (hk : m.T[k]? = some t) (htx : pl[k]? = some txs) (hw : Way txs m k t m') : SerI words (timeM m') := by
  have gt := hg.ts k t txs hk htx
  have hsame : ∀ (a : Nat) l', m.L[a]? = some l' → ∃ l, m.L[a]? = some l ∧ l'.v = l.v := fun a l' h => ⟨l', h, rfl⟩
  have hdrop : ∀ (a : Nat) l', (m.L.map (dropO (k : Int)))[a]? = some l' → ∃ l, m.L[a]? = some l ∧ l'.v = l.v := by
    intro a l' hl
    rw [List.getElem?_map] at hl
    obtain ⟨l, h1, rfl⟩ := Option.map_eq_some_iff.1 hl
    refine ⟨l, h1, ?_⟩
    unfold dropO; split <;> rfl
  refine SerI.time ?_
  cases hw with
  | begins hs =>
    have hR := h.z k t hk hs
    refine h.thr1 (t' := { t with try_ := t.try_ + 1, rv := m.now, fr := m.time, st := 1 }) hk rfl rfl (Int.le_refl _) rfl hsame (by omega) (by show ¬ (1 : Int) = 5; omega) ?_ ?_ (fun _ x hx _ => ?_) (fun _ => Int.le_refl _) (fun h => absurd h (by show ¬ (1 : Int) = 0; omega)) (fun h => absurd h (by show ¬ (1 : Int) = 4; omega))
    · intro p hp
      replace hp : p ∈ t.R := hp
      rw [hR] at hp; cases hp
    · intro j c _ _ _ p hp
      replace hp : p ∈ t.R := hp
      rw [hR] at hp; cases hp
    · show lst x ≤ m.now
      have := hO.hs x hx
      unfold lst
      split
      · rename_i hd; exact (this.2.2 hd.1 hd.2).2
      · exact this.2.1
  | writes hs a ha hd u => exact h.thr2 (t' := { t with W := writeP t.W a.at_ u, pc := t.pc + 1 }) hk rfl rfl (Int.le_refl _) rfl hsame (by omega) (by show t.st ≠ 5; omega) (by omega) (by show 1 ≤ t.st; omega) rfl rfl rfl (fun h => absurd (show t.st = 4 from h) (by omega))
  | own hs a ha hd p hp hpa u => exact h.thr2 (t' := { t with sum := u, pc := t.pc + 1 }) hk rfl rfl (Int.le_refl _) rfl hsame (by omega) (by show t.st ≠ 5; omega) (by omega) (by show 1 ≤ t.st; omega) rfl rfl rfl (fun h => absurd (show t.st = 4 from h) (by omega))
  | reads hs a ha hd hn hs2 u =>
    obtain ⟨s1, s2, s3⟩ := h.seen hg hLk hk (by omega) hs2
    refine h.thr1 (t' := { t with R := t.R ++ [⟨a.at_, m.W.getD a.at_.toNat 0⟩], sum := u, pc := t.pc + 1 }) hk rfl rfl (Int.le_refl _) rfl hsame (by omega) (by show t.st ≠ 5; omega) ?_ ?_ (fun _ x hx hlt => h.et x hx k t hk (by omega) hlt) (fun _ => h.ft k t hk (by omega)) (fun h => absurd (show t.st = 0 from h) (by omega)) (fun h => absurd (show t.st = 4 from h) (by omega))
    · intro p hp
      rcases List.mem_append.1 hp with hp | hp
      · exact h.rt k t hk p hp
      · obtain rfl := List.mem_singleton.1 hp
        exact s1
    · intro j c hj hc hs4 p hp hw
      rcases List.mem_append.1 hp with hp | hp
      · exact (h.chk j c hc hs4).rd k t (Ne.symm hj) hk p hp hw
      · obtain rfl := List.mem_singleton.1 hp
        exact absurd hw (s3 j c hj hc hs4)
  | blind hs a ha hd hn hs2 => exact h.over hO gt hk (by omega) (by omega) (.inl (by omega)) hsame
  | readonly hs hpc hW => exact h.over hO gt hk (by omega) (by omega) (.inr (List.eq_nil_of_length_eq_zero hW)) hsame
  | holds hs hpc hW => exact h.thr2 (t' := { t with st := 2, i := 0 }) hk rfl rfl (Int.le_refl _) rfl hsame (by omega) (by show ¬ (2 : Int) = 5; omega) (by omega) (by show (1 : Int) ≤ 2; omega) rfl rfl rfl (fun h => absurd h (by show ¬ (2 : Int) = 4; omega))
  | takes hs x hx ht =>
    obtain ⟨b, hb, _, _, _, hbl, hf, e⟩ := take_ok ht
    have hst : ∀ n : Int, n ≠ 2 → n ≠ 3 → (if t.i + 1 = (t.W.length : Int) then (3 : Int) else t.st) ≠ n := by
      intro n h2 h3; split <;> omega
    refine h.thr2 (t' := { t with i := t.i + 1, st := if t.i + 1 = t.W.length then 3 else t.st }) hk rfl rfl (Int.le_refl _) rfl (fun a l' hl => ?_) (by omega) (hst 5 (by omega) (by omega)) (by omega) (by show 1 ≤ (if t.i + 1 = (t.W.length : Int) then (3 : Int) else t.st); split <;> omega) rfl rfl rfl (fun h => absurd h (hst 4 (by omega) (by omega)))
    rw [e] at hl
    rcases set_get hl with ⟨rfl, rfl⟩ | ⟨_, hl⟩
    · exact ⟨_, List.getElem?_eq_getElem hbl, rfl⟩
    · exact ⟨l', hl, rfl⟩
  | clash hs x hx ht => exact h.over hO gt hk (by omega) (by omega) (.inl (by omega)) hdrop
  | ticks hs ht =>
    rcases tick_cases hg.may with ⟨_, e⟩ | ⟨hlt, e⟩
    · rw [e] at ht; simp at ht
    · have e1 : (tickL m.now m.mx m.L).2.1 = m.now + 1 := by rw [e]
      refine h.thr2 (t' := { t with wv := (tickL m.now m.mx m.L).2.1, st := 4, i := 0 }) hk rfl rfl (Int.le_refl _) rfl hsame (by omega) (by show ¬ (4 : Int) = 5; omega) (by omega) (by show (1 : Int) ≤ 4; omega) rfl rfl rfl (fun _ => ?_)
      have hX := fun x hx => hO.hs x hx
      refine ⟨fun j u hj hu p hp hw => ?_, fun x hx p hp hw => ?_, fun i p hi hp => ?_, fun j c hj hc hs4 i p hi hp hw hlt2 => ?_, fun x hx hd p hp hw hlt2 => ?_, fun x hx hd => ?_, fun j u hj hu hs4 => ?_⟩
      · show u.rv < (tickL m.now m.mx m.L).2.1
        have h1 : 1 ≤ u.st := by
          have h2 : u.st ≠ 0 := fun e0 => by rw [h.z j u hu e0] at hp; cases hp
          obtain ⟨tj, htj⟩ : ∃ tj, pl[j]? = some tj := ⟨_, List.getElem?_eq_getElem (by rw [← hg.T]; exact (List.getElem?_eq_some_iff.1 hu).1)⟩
          have := (hg.ts j u tj hu htj).s0
          omega
        have := hO.t1 j u hu h1
        omega
      · show x.rv < (tickL m.now m.mx m.L).2.1
        have := (hX x hx).2.1; omega
      · exact absurd (show (i : Int) < 0 from hi) (by omega)
      · have := (hO.t4 j c hc (by omega)).2
        have : (tickL m.now m.mx m.L).2.1 < c.wv := hlt2
        omega
      · have := ((hX x hx).2.2 hd.1 hd.2).2
        have : (tickL m.now m.mx m.L).2.1 < x.wv := hlt2
        omega
      · show x.wv ≠ (tickL m.now m.mx m.L).2.1
        have := ((hX x hx).2.2 hd.1 hd.2).2
        omega
      · show u.wv ≠ (tickL m.now m.mx m.L).2.1
        have := (hO.t4 j u hu (by omega)).2
        omega
  | late hs ht => exact h.over hO gt hk (by omega) (by omega) (.inl (by omega)) hdrop
  | checks hs x hx hs2 =>
    obtain ⟨_, s2, s3⟩ := h.seen hg hLk hk (by omega) hs2
    have hc := h.chk k t hk hs
    have h0 := gt.i0
    refine h.thr2 (t' := { t with i := t.i + 1 }) hk rfl rfl (Int.le_refl _) rfl hsame (by omega) (by show t.st ≠ 5; omega) (by omega) (by show 1 ≤ t.st; omega) rfl rfl rfl (fun _ => ⟨hc.rd, hc.rx, fun i p hi hp => ?_, hc.co, hc.cx, hc.dt, hc.dd⟩)
    replace hi : (i : Int) < t.i + 1 := hi
    by_cases e : (i : Int) = t.i
    · have : i = t.i.toNat := by omega
      subst this
      replace hp : t.R[t.i.toNat]? = some p := hp
      rw [hx] at hp; injection hp with hp; subst hp
      exact ⟨fun y hy hw _ => s2 y hy hw, fun j d hj hd hd4 hw _ => absurd hw (s3 j d hj hd hd4)⟩
    · exact hc.ct i p (by omega) hp
  | stale hs x hx hs2 => exact h.over hO gt hk (by omega) (by omega) (.inl (by omega)) hdrop
  | done hs hx => exact h.done hO hLk gt hk hs hx
  | backs hs x hx => exact h.back hg hO hLk gt hk hs hx

theorem ser_run (hp : PlanOk words mx pl) (picks : List Int) : OrdI (runM words mx pl picks) ∧ LockI (runM words mx pl picks) ∧ SerI words (runM words mx pl picks) := by
  refine run_ind hp (P := fun m => OrdI m ∧ LockI m ∧ SerI words m) ⟨ord_run hp [], (lock_run hp []).2, ?_⟩ (fun m k t txs m' hg h hk htx _ hw => ⟨ord_way hg h.1 hk htx hw, lock_way hg h.1 h.2.1 hk htx hw, ser_way hg h.1 h.2.1 h.2.2 hk htx hw⟩) (fun m h => ⟨⟨h.1.t1, h.1.t4, h.1.hs⟩, ⟨h.2.1.own, h.2.1.who, h.2.1.ver⟩, h.2.2.time⟩) picks
  have ht : ∀ (a : Nat) t, (initM words mx pl.length).T[a]? = some t → t = Tx.zero := by
    intro a l hl
    simp only [initM] at hl
    rw [List.eq_of_mem_replicate (List.mem_of_getElem? hl)]
  refine ⟨fun a l v hl hv => ?_, fun a l x hl hx => by simp [initM] at hx, fun k t hk hs => ?_, fun k t hk p hp => ?_, fun x hx => by simp [initM] at hx, fun k t hk hs => ?_, fun x hx => by simp [initM] at hx, List.Pairwise.nil, fun x hx => by simp [initM] at hx, fun x hx => by simp [initM] at hx, fun x hx => by simp [initM] at hx, fun k t hk hs => ?_, fun x hx => by simp [initM] at hx, fun k t hk _ => by rw [ht k t hk]; rfl⟩
  · simp only [initM] at hv
    exact .inr ⟨List.eq_of_mem_replicate (List.mem_of_getElem? hv), fun y hy => by simp [initM] at hy⟩
  · rw [ht k t hk] at hs; exact absurd hs (by decide)
  · rw [ht k t hk] at hp; cases hp
  · rw [ht k t hk] at hs; exact absurd hs (by decide)
  · rw [ht k t hk] at hs; exact absurd hs (by decide)
end
end Go.Proofs.Ytmcbnpeihedcaaa
