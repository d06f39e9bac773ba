/- What holds whatever is picked: idle threads, picks of nobody. Plain. -/
import Derived.Test.YtngimbfojccikaaStPlain
import Derived.Test.YtngimbfojccikaaStOrd
namespace Go.Proofs.Ytngimbfojccikaa
set_option linter.unusedSimpArgs false
open Go
set_option linter.unusedVariables false

section
variable {words : Nat} {mx : Int} {pl : List (List (List Ac))}

/-! ### StmPick -/
theorem way_moves {m : Mm} {k : Nat} {t : Tx} {txs : List (List Ac)} {m' : Mm} (hk : m.T[k]? = some t) (hw : Way txs m k t m') : m'.er ≠ m.er := by
  have hset : ∀ (t' : Tx) (n : Mm), n.T = m.T.set k t' → erT t' ≠ erT t → n.er ≠ m.er := by
    intro t' n hn hne he
    have h1 := congrArg (fun z : Mm => z.T[k]?) he
    simp only [er_T, hn, hk] at h1
    rw [List.getElem?_set_self (List.getElem?_eq_some_iff.1 hk).1] at h1
    simp at h1
    exact hne h1
  have hH : ∀ (n : Mm), n.H.length = m.H.length + 1 → n.er ≠ m.er := by
    intro n hn he
    have h1 := congrArg (fun z : Mm => z.H.length) he
    simp [Mm.er] at h1
    omega
  cases hw with
  | begins h => exact hset _ _ rfl (fun e => by have := congrArg Tx.try_ e; simp [erT] at this; omega)
  | writes h a ha hd u => exact hset _ _ rfl (fun e => by have := congrArg Tx.pc e; simp [erT] at this; omega)
  | own h a ha hd p hp hpa u => exact hset _ _ rfl (fun e => by have := congrArg Tx.pc e; simp [erT] at this; omega)
  | reads h a ha hd hn hs u => exact hset _ _ rfl (fun e => by have := congrArg Tx.pc e; simp [erT] at this; omega)
  | blind h a ha hd hn hs => exact hH _ (by simp [endM, overM, tellM])
  | readonly h hpc hW => exact hH _ (by simp [endM, overM, tellM])
  | holds h hpc hW => exact hset _ _ rfl (fun e => by have := congrArg Tx.st e; simp [erT] at this; omega)
  | takes h x hx ht => exact hset _ _ rfl (fun e => by have := congrArg Tx.i e; simp [erT] at this; omega)
  | clash h x hx ht => exact hH _ (by simp [quitM, endM, overM, tellM])
  | ticks h ht => exact hset _ _ rfl (fun e => by have := congrArg Tx.st e; simp [erT] at this; omega)
  | late h ht => exact hH _ (by simp [quitM, endM, overM, tellM])
  | checks h x hx hs => exact hset _ _ rfl (fun e => by have := congrArg Tx.i e; simp [erT] at this; omega)
  | stale h x hx hs => exact hH _ (by simp [quitM, endM, overM, tellM])
  | done h hx => exact hset _ _ rfl (fun e => by have := congrArg Tx.st e; simp [erT] at this; omega)
  | backs h x hx =>
    refine hset _ _ rfl (fun e => ?_)
    split at e
    · have := congrArg Tx.st e; simp [erT, overT, Tx.zero] at this; omega
    · have := congrArg Tx.i e; simp [erT] at this; omega
theorem idle_iff {m : Mm} (hg : Good words pl m) (who : Int) : idleL pl m who = true ↔ (stepM pl m who).er = m.er := by
  unfold idleL stepM
  by_cases h0 : who < 0
  · rw [if_neg (by omega), decide_eq_true h0]; simp
  rw [if_pos (by omega), decide_eq_false h0, Bool.false_or]
  by_cases h1 : (pl.length : Int) ≤ who
  · rw [decide_eq_true h1]
    unfold stepK
    rw [show m.T[who.toNat]? = none from List.getElem?_eq_none (by rw [hg.T]; omega)]
    simp
  rw [decide_eq_false h1, Bool.false_or]
  obtain ⟨k, rfl⟩ : ∃ k : Nat, who = (k : Int) := ⟨who.toNat, by omega⟩
  rw [Int.toNat_natCast]
  have hT := hg.T
  obtain ⟨txs, htxs⟩ : ∃ t, pl[k]? = some t := ⟨_, List.getElem?_eq_getElem (by omega)⟩
  obtain ⟨t, ht⟩ : ∃ t, m.T[k]? = some t := ⟨_, List.getElem?_eq_getElem (by omega)⟩
  have gt := hg.ts k t txs ht htxs
  unfold stepK
  rw [ht, htxs]
  simp only
  by_cases hlt : t.tx < (txs.length : Int)
  · rw [if_pos hlt, decide_eq_false (by omega)]
    simp only [Bool.and_false, Bool.false_eq_true, false_iff]
    exact way_moves ht (way_of gt)
  · rw [if_neg hlt, decide_eq_true (by omega)]
    have : t.st = 0 := Decidable.byContradiction fun h => hlt (gt.x2 h)
    rw [this]
    simp

/-! ### StmBegins -/
theorem run_none {pl : List (List (List Ac))} : ∀ (picks : List Int) (m : Mm), (∀ q ∈ picks, (m.T.length : Int) ≤ q) → ({ runFrom pl m picks with time := m.time } : Mm) = m
  | [], m, _ => rfl
  | q :: picks, m, h => by
    have hq := h q (by simp)
    have hst : stepM pl m q = m := by
      unfold stepM
      split
      · unfold stepK
        rw [List.getElem?_eq_none (by omega)]
      · rfl
    show ({ runFrom pl (timeM (stepM pl m q)) picks with time := m.time } : Mm) = m
    rw [hst]
    have := run_none (pl := pl) picks (timeM m) (fun r hr => h r (by simp [hr]))
    have h2 := congrArg (fun z : Mm => ({ z with time := m.time } : Mm)) this
    exact h2

end
end Go.Proofs.Ytngimbfojccikaa
