/- What holds whatever is picked: by the ways of a step; the order of versions. Plain. -/
import Derived.Test.YtngimbfojccikaaStRun
namespace Go.Proofs.Ytngimbfojccikaa
set_option linter.unusedSimpArgs false
open Go
set_option linter.unusedVariables false

section
variable {words : Nat} {mx : Int} {pl : List (List (List Ac))}

theorem runFrom_ind {P : Mm → Prop} (hp : PlanOk words mx pl)
    (hs : ∀ m k t txs m', Good words pl m → P m → m.T[k]? = some t → pl[k]? = some txs → t.tx < (txs.length : Int) → Way txs m k t m' → P (timeM m'))
    (ht : ∀ m, P m → P (timeM m)) : ∀ (picks : List Int) (m : Mm), Good words pl m → P m → P (runFrom pl m picks)
  | [], m, _, h => h
  | q :: picks, m, hg, h => by
    refine runFrom_ind hp hs ht picks _ (good_step hp hg q) ?_
    show P (timeM (stepM pl m q))
    unfold stepM
    split
    · unfold stepK
      cases hk : m.T[q.toNat]? with
      | none => exact ht m h
      | some t =>
        cases htx : pl[q.toNat]? with
        | none => exact ht m h
        | some txs =>
          simp only
          split
          · rename_i hlt
            exact hs m _ t txs _ hg h hk htx hlt (way_of (hg.ts _ t txs hk htx))
          · exact ht m h
    · exact ht m h
theorem run_ind {P : Mm → Prop} (hp : PlanOk words mx pl) (h0 : P (initM words mx pl.length))
    (hs : ∀ m k t txs m', Good words pl m → P m → m.T[k]? = some t → pl[k]? = some txs → t.tx < (txs.length : Int) → Way txs m k t m' → P (timeM m'))
    (ht : ∀ m, P m → P (timeM m)) (picks : List Int) : P (runM words mx pl picks) :=
  runFrom_ind hp hs ht picks _ (good_init hp) h0

theorem set_get {α : Type} {l : List α} {k j : Nat} {x y : α} (h : (l.set k x)[j]? = some y) : (j = k ∧ y = x) ∨ (j ≠ k ∧ l[j]? = some y) := by
  rw [List.getElem?_set] at h
  split at h
  · rename_i e
    split at h
    · injection h with h
      exact .inl ⟨e.symm, h.symm⟩
    · cases h
  · rename_i e
    exact .inr ⟨fun h => e h.symm, h⟩

/-! ### StmOrder -/
structure OrdI (m : Mm) : Prop where
  t1 : ∀ (k : Nat) t, m.T[k]? = some t → 1 ≤ t.st → t.rv ≤ m.now
  t4 : ∀ (k : Nat) t, m.T[k]? = some t → 4 ≤ t.st → t.rv < t.wv ∧ t.wv ≤ m.now
  hs : ∀ x ∈ m.H, x.W.Pairwise (fun p q => p.at_ < q.at_) ∧ x.rv ≤ m.now ∧ (x.en = 0 → x.W ≠ [] → x.rv < x.wv ∧ x.wv ≤ m.now)
theorem overT_st (t : Tx) (how : Int) : (overT t how).st = 0 := by unfold overT; split <;> rfl
theorem OrdI.with {m m' : Mm} {k : Nat} {t' : Tx} (h : OrdI m) (hn : m.now ≤ m'.now) (hT : m'.T = m.T.set k t') (h1 : 1 ≤ t'.st → t'.rv ≤ m'.now) (h4 : 4 ≤ t'.st → t'.rv < t'.wv ∧ t'.wv ≤ m'.now)
    (hH : ∀ x ∈ m'.H, x ∈ m.H ∨ (x.W.Pairwise (fun p q => p.at_ < q.at_) ∧ x.rv ≤ m'.now ∧ (x.en = 0 → x.W ≠ [] → x.rv < x.wv ∧ x.wv ≤ m'.now))) : OrdI (timeM m') := by
  refine ⟨fun j u hu hs => ?_, fun j u hu hs => ?_, fun x hx => ?_⟩
  · replace hu : m'.T[j]? = some u := hu
    rw [hT] at hu
    show u.rv ≤ m'.now
    rcases set_get hu with ⟨_, rfl⟩ | ⟨_, hu⟩
    · exact h1 hs
    · have := h.t1 j u hu hs; omega
  · replace hu : m'.T[j]? = some u := hu
    rw [hT] at hu
    show u.rv < u.wv ∧ u.wv ≤ m'.now
    rcases set_get hu with ⟨_, rfl⟩ | ⟨_, hu⟩
    · exact h4 hs
    · have := h.t4 j u hu hs; omega
  · show x.W.Pairwise _ ∧ x.rv ≤ m'.now ∧ (x.en = 0 → x.W ≠ [] → x.rv < x.wv ∧ x.wv ≤ m'.now)
    rcases hH x hx with hx | hx
    · have := h.hs x hx
      exact ⟨this.1, by have := this.2.1; omega, fun e1 e2 => by have := this.2.2 e1 e2; omega⟩
    · exact hx
theorem ord_way {m : Mm} {k : Nat} {t : Tx} {txs : List (List Ac)} {m' : Mm} (hg : Good words pl m) (h : OrdI m) (hk : m.T[k]? = some t) (htx : pl[k]? = some txs) (hw : Way txs m k t m') : OrdI (timeM m') := by
  have gt := hg.ts k t txs hk htx
  have h1 := h.t1 k t hk
  have h4 := h.t4 k t hk
  have hno : ∀ (how : Int) (n : Mm), n.now = m.now → how ≠ 0 → n.H = m.H → 1 ≤ t.st → ∀ x ∈ (endM n k t how).H, x ∈ m.H ∨ (x.W.Pairwise (fun p q => p.at_ < q.at_) ∧ x.rv ≤ m.now ∧ (x.en = 0 → x.W ≠ [] → x.rv < x.wv ∧ x.wv ≤ m.now)) := by
    intro how n hn hh hH hst x hx
    simp only [endM, overM, tellM, List.mem_append, List.mem_singleton, hH] at hx
    rcases hx with hx | rfl
    · exact .inl hx
    · exact .inr ⟨gt.ws, h1 hst, fun e => absurd e hh⟩
  have hov : ∀ (how : Int), (1 ≤ (overT t how).st → (overT t how).rv ≤ m.now) ∧ (4 ≤ (overT t how).st → (overT t how).rv < (overT t how).wv ∧ (overT t how).wv ≤ m.now) := fun how => by
    rw [overT_st]
    exact ⟨fun h => by omega, fun h => by omega⟩
  cases hw with
  | begins hs => exact h.with (Int.le_refl _) rfl (fun _ => Int.le_refl _) (fun h => by have : (4 : Int) ≤ 1 := h; omega) (fun x hx => .inl hx)
  | writes hs a ha hd u => exact h.with (Int.le_refl _) rfl (fun hst => h1 hst) (fun hst => h4 hst) (fun x hx => .inl hx)
  | own hs a ha hd p hp hpa u => exact h.with (Int.le_refl _) rfl (fun hst => h1 hst) (fun hst => h4 hst) (fun x hx => .inl hx)
  | reads hs a ha hd hn hs2 u => exact h.with (Int.le_refl _) rfl (fun hst => h1 hst) (fun hst => h4 hst) (fun x hx => .inl hx)
  | blind hs a ha hd hn hs2 => exact h.with (Int.le_refl _) rfl (hov 1).1 (hov 1).2 (hno 1 m rfl (by omega) rfl (by omega))
  | readonly hs hpc hW =>
    refine h.with (Int.le_refl _) rfl (hov 0).1 (hov 0).2 (fun x hx => ?_)
    simp only [endM, overM, tellM, List.mem_append, List.mem_singleton] at hx
    rcases hx with hx | rfl
    · exact .inl hx
    · exact .inr ⟨gt.ws, h1 (by omega), fun _ e => absurd (List.eq_nil_of_length_eq_zero hW) e⟩
  | holds hs hpc hW => exact h.with (Int.le_refl _) rfl (fun _ => h1 (by omega)) (fun h => by have : (4 : Int) ≤ 2 := h; omega) (fun x hx => .inl hx)
  | takes hs x hx ht => exact h.with (Int.le_refl _) rfl (fun _ => h1 (by omega)) (fun h => by exfalso; simp only at h; split at h <;> omega) (fun x hx => .inl hx)
  | clash hs x hx ht => exact h.with (Int.le_refl _) rfl (hov 1).1 (hov 1).2 (hno 1 _ rfl (by omega) rfl (by omega))
  | ticks hs ht =>
    rcases tick_cases hg.may with ⟨_, e⟩ | ⟨hlt, e⟩
    · rw [e] at ht; simp at ht
    · have hr := h1 (by omega)
      refine h.with (m' := { m with now := (tickL m.now m.mx m.L).1, T := m.T.set k { t with wv := (tickL m.now m.mx m.L).2.1, st := 4, i := 0 } }) (by show m.now ≤ (tickL m.now m.mx m.L).1; rw [e]; show m.now ≤ m.now + 1; omega) rfl (fun _ => ?_) (fun _ => ?_) (fun x hx => .inl hx)
      · show t.rv ≤ (tickL m.now m.mx m.L).1
        rw [e]; show t.rv ≤ m.now + 1; omega
      · show t.rv < (tickL m.now m.mx m.L).2.1 ∧ (tickL m.now m.mx m.L).2.1 ≤ (tickL m.now m.mx m.L).1
        rw [e]; show t.rv < m.now + 1 ∧ m.now + 1 ≤ m.now + 1; omega
  | late hs ht => exact h.with (Int.le_refl _) rfl (hov 2).1 (hov 2).2 (hno 2 _ rfl (by omega) rfl (by omega))
  | checks hs x hx hs2 => exact h.with (Int.le_refl _) rfl (fun hst => h1 hst) (fun hst => h4 hst) (fun x hx => .inl hx)
  | stale hs x hx hs2 => exact h.with (Int.le_refl _) rfl (hov 1).1 (hov 1).2 (hno 1 _ rfl (by omega) rfl (by omega))
  | done hs hx =>
    refine h.with (m' := { tellM m k t 0 with T := m.T.set k { t with st := 5, i := 0 } }) (Int.le_refl _) rfl (fun _ => h1 (by omega)) (fun _ => h4 (by omega)) (fun x hx => ?_)
    simp only [tellM, List.mem_append, List.mem_singleton] at hx
    rcases hx with hx | rfl
    · exact .inl hx
    · exact .inr ⟨gt.ws, h1 (by omega), fun _ _ => h4 (by omega)⟩
  | backs hs x hx =>
    refine h.with (m' := { m with W := m.W.set x.at_.toNat x.v, L := (giveL m.now m.mx m.L x.at_ (k : Int) t.wv).2, T := m.T.set k (if t.i + 1 = t.W.length then overT t 0 else { t with i := t.i + 1 }) }) (Int.le_refl _) rfl (fun hst => ?_) (fun hst => ?_) (fun x hx => .inl hx)
    · split at hst
      · rw [overT_st] at hst; omega
      · rw [if_neg (by assumption)]; exact h1 hst
    · split at hst
      · rw [overT_st] at hst; omega
      · rw [if_neg (by assumption)]; exact h4 hst
theorem ord_run (hp : PlanOk words mx pl) (picks : List Int) : OrdI (runM words mx pl picks) := by
  refine run_ind hp ⟨fun k t hk hs => ?_, fun k t hk hs => ?_, fun x hx => by simp [initM] at hx⟩ (fun m k t txs m' hg h hk htx _ hw => ord_way hg h hk htx hw) (fun m h => ⟨h.t1, h.t4, h.hs⟩) picks
  all_goals
    simp only [initM] at hk
    have := List.eq_of_mem_replicate (List.mem_of_getElem? hk)
    rw [this] at hs
    simp [Tx.zero] at hs
end
end Go.Proofs.Ytngimbfojccikaa
