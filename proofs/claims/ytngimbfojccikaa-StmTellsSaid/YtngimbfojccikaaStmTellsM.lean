/- Several texts in one: StInv, RsIdle. -/
import Derived.Test.YtngimbfojccikaaStmTellsL
import Derived.Test.YtngimbfojccikaaStmTellsK
import Derived.Deep.RegionHeld3
import Derived.Deep.DrawnRows
namespace Go.Proofs.Ytngimbfojccikaa
set_option linter.unusedSimpArgs false
open Go
set_option linter.unusedVariables false

section
variable {words : Nat} {mx : Int} {pl : List (List (List Ac))}

/-! ### StmPick -/
theorem way_moves {m : Mm} {k : Nat} {t : Tx} {txs : List (List Ac)} {m' : Mm} (hk : m.T[k]? = some t) (hw : Way txs m k t m') : m'.er ≠ m.er := by
  have hset : ∀ (t' : Tx) (n : Mm), n.T = m.T.set k t' → erT t' ≠ erT t → n.er ≠ m.er := by
    intro t' n hn hne he
    have h1 := congrArg (fun z : Mm => z.T[k]?) he
    simp only [er_T, hn, hk] at h1
    rw [List.getElem?_set_self (List.getElem?_eq_some_iff.1 hk).1] at h1
    simp at h1
    exact hne h1
  have hH : ∀ (n : Mm), n.H.length = m.H.length + 1 → n.er ≠ m.er := by
    intro n hn he
    have h1 := congrArg (fun z : Mm => z.H.length) he
    simp [Mm.er] at h1
    omega
  cases hw with
  | begins h => exact hset _ _ rfl (fun e => by have := congrArg Tx.try_ e; simp [erT] at this; omega)
  | writes h a ha hd u => exact hset _ _ rfl (fun e => by have := congrArg Tx.pc e; simp [erT] at this; omega)
  | own h a ha hd p hp hpa u => exact hset _ _ rfl (fun e => by have := congrArg Tx.pc e; simp [erT] at this; omega)
  | reads h a ha hd hn hs u => exact hset _ _ rfl (fun e => by have := congrArg Tx.pc e; simp [erT] at this; omega)
  | blind h a ha hd hn hs => exact hH _ (by simp [endM, overM, tellM])
  | readonly h hpc hW => exact hH _ (by simp [endM, overM, tellM])
  | holds h hpc hW => exact hset _ _ rfl (fun e => by have := congrArg Tx.st e; simp [erT] at this; omega)
  | takes h x hx ht => exact hset _ _ rfl (fun e => by have := congrArg Tx.i e; simp [erT] at this; omega)
  | clash h x hx ht => exact hH _ (by simp [quitM, endM, overM, tellM])
  | ticks h ht => exact hset _ _ rfl (fun e => by have := congrArg Tx.st e; simp [erT] at this; omega)
  | late h ht => exact hH _ (by simp [quitM, endM, overM, tellM])
  | checks h x hx hs => exact hset _ _ rfl (fun e => by have := congrArg Tx.i e; simp [erT] at this; omega)
  | stale h x hx hs => exact hH _ (by simp [quitM, endM, overM, tellM])
  | done h hx => exact hset _ _ rfl (fun e => by have := congrArg Tx.st e; simp [erT] at this; omega)
  | backs h x hx =>
    refine hset _ _ rfl (fun e => ?_)
    split at e
    · have := congrArg Tx.st e; simp [erT, overT, Tx.zero] at this; omega
    · have := congrArg Tx.i e; simp [erT] at this; omega
theorem idle_iff {m : Mm} (hg : Good words pl m) (who : Int) : idleL pl m who = true ↔ (stepM pl m who).er = m.er := by
  unfold idleL stepM
  by_cases h0 : who < 0
  · rw [if_neg (by omega), decide_eq_true h0]; simp
  rw [if_pos (by omega), decide_eq_false h0, Bool.false_or]
  by_cases h1 : (pl.length : Int) ≤ who
  · rw [decide_eq_true h1]
    unfold stepK
    rw [show m.T[who.toNat]? = none from List.getElem?_eq_none (by rw [hg.T]; omega)]
    simp
  rw [decide_eq_false h1, Bool.false_or]
  obtain ⟨k, rfl⟩ : ∃ k : Nat, who = (k : Int) := ⟨who.toNat, by omega⟩
  rw [Int.toNat_natCast]
  have hT := hg.T
  obtain ⟨txs, htxs⟩ : ∃ t, pl[k]? = some t := ⟨_, List.getElem?_eq_getElem (by omega)⟩
  obtain ⟨t, ht⟩ : ∃ t, m.T[k]? = some t := ⟨_, List.getElem?_eq_getElem (by omega)⟩
  have gt := hg.ts k t txs ht htxs
  unfold stepK
  rw [ht, htxs]
  simp only
  by_cases hlt : t.tx < (txs.length : Int)
  · rw [if_pos hlt, decide_eq_false (by omega)]
    simp only [Bool.and_false, Bool.false_eq_true, false_iff]
    exact way_moves ht (way_of gt)
  · rw [if_neg hlt, decide_eq_true (by omega)]
    have : t.st = 0 := Decidable.byContradiction fun h => hlt (gt.x2 h)
    rw [this]
    simp

/-! ### StmBegins -/
theorem run_none {pl : List (List (List Ac))} : ∀ (picks : List Int) (m : Mm), (∀ q ∈ picks, (m.T.length : Int) ≤ q) → ({ runFrom pl m picks with time := m.time } : Mm) = m
  | [], m, _ => rfl
  | q :: picks, m, h => by
    have hq := h q (by simp)
    have hst : stepM pl m q = m := by
      unfold stepM
      split
      · unfold stepK
        rw [List.getElem?_eq_none (by omega)]
      · rfl
    show ({ runFrom pl (timeM (stepM pl m q)) picks with time := m.time } : Mm) = m
    rw [hst]
    have := run_none (pl := pl) picks (timeM m) (fun r hr => h r (by simp [hr]))
    have h2 := congrArg (fun z : Mm => ({ z with time := m.time } : Mm)) this
    exact h2

end
end Go.Proofs.Ytngimbfojccikaa
namespace Go.Proofs.Ytngimbfojccikaa
set_option linter.unusedSimpArgs false
open Go Go.RowKit
set_option linter.unusedVariables false
set_option maxRecDepth 100000

set_option maxHeartbeats 4000000 in
theorem rIdle_any (words mx : Int) (pl : List (List (List Ac))) (pv : Value) (a : Ad) (m : Mm) (who : Int) (w : World) (hpl : PlV w pv pl) (hm : MemV w a m) (hT : m.T.length = pl.length) :
    Calls Try.prog 16 #[planV words mx pv, .agg (memCells a m).toArray, .int .i64 who] w fun e w' => e = .returned (.bool (idleL pl m who)) ∧ Below w.heap.size w w' := by
  obtain ⟨A, c, rfl, _, _⟩ := hpl.form
  have kX := Blk.new w 24 #[.int .i64 words, .int .i64 mx, .slice A pl.length c]
  have bX : Below w.heap.size w (w.alloc (.cells #[.int .i64 words, .int .i64 mx, .slice A pl.length c] 24)) := (Below.refl _ w).alloc (Nat.le_refl _) _
  have kY := Blk.new (w.alloc (.cells #[.int .i64 words, .int .i64 mx, .slice A pl.length c] 24)) 34 (memCells a m).toArray
  have kX := kX.keep (show Below _ _ ((w.alloc (.cells #[.int .i64 words, .int .i64 mx, .slice A pl.length c] 24)).alloc (.cells (memCells a m).toArray 34)) from (Below.refl _ _).alloc (Nat.le_refl _) _)
  have bY : Below w.heap.size w ((w.alloc (.cells #[.int .i64 words, .int .i64 mx, .slice A pl.length c] 24)).alloc (.cells (memCells a m).toArray 34)) := bX.alloc (by simp) _
  have hb0 : (w.alloc (.cells #[.int .i64 words, .int .i64 mx, .slice A pl.length c] 24)).heap.size = w.heap.size + 1 := by simp
  rw [hb0] at kY
  obtain ⟨w2, hw2⟩ : ∃ z, (w.alloc (.cells #[.int .i64 words, .int .i64 mx, .slice A pl.length c] 24)).alloc (.cells (memCells a m).toArray 34) = z := ⟨_, rfl⟩
  rw [hw2] at kX kY bY
  have HW := Lib.hid hw2
  have HB := Lib.hid bY
  have HK := Lib.hid kX
  have HKY := Lib.hid kY
  clear kX kY hw2 hb0 bX bY
  simp only [memCells, planV, hT] at HW HKY ⊢
  by_cases h0 : who < 0
  · rw [show idleL pl m who = true from by unfold idleL; rw [decide_eq_true h0]; rfl]
    clear hpl hm
    go_enter Try.func16, Try.ntmps16
    go_wp2_with fail
    go_ret
    refine ⟨rfl, ?_⟩
    rw [HW.out]
    exact HB.out
  have hd0 : decide (who < 0) = false := decide_eq_false h0
  obtain ⟨k, rfl⟩ : ∃ k : Nat, who = (k : Int) := ⟨who.toNat, by omega⟩
  by_cases h1 : pl.length ≤ k
  · have h1z : (pl.length : Int) ≤ (k : Int) := by omega
    rw [show idleL pl m (k : Int) = true from by unfold idleL; rw [hd0, decide_eq_true h1z]; rfl]
    have p2 : w2.cell? ⟨w.heap.size, 2, none⟩ = some (.slice A pl.length c) := by rw [HK.out.cell]; rfl
    have y4 : w2.cell? ⟨w.heap.size + 1, 4, none⟩ = some (.slice (some ⟨a.gT, 0, none⟩) pl.length a.cT) := by rw [HKY.out.cell]; rfl
    clear hpl hm
    generalize pl.length = n at *
    go_enter Try.func16, Try.ntmps16
    go_wp2_with fail
    go_ret
    refine ⟨rfl, ?_⟩
    rw [HW.out]
    exact HB.out
  have h1z : ¬ (pl.length : Int) ≤ (k : Int) := by omega
  have hkp : k < pl.length := by omega
  have hkT : k < m.T.length := by omega
  obtain ⟨txs, htxs⟩ : ∃ t, pl[k]? = some t := ⟨_, List.getElem?_eq_getElem hkp⟩
  obtain ⟨t, ht⟩ : ∃ t, m.T[k]? = some t := ⟨_, List.getElem?_eq_getElem hkT⟩
  have hs : idleL pl m (k : Int) = (t.st == 0 && decide ((txs.length : Int) ≤ t.tx)) := by
    unfold idleL
    rw [hd0, decide_eq_false h1z, Int.toNat_natCast, ht, htxs]; rfl
  rw [hs]
  obtain ⟨b1, o1, c1, A1, d1, e1, hb1, hm1, hc1, hT1⟩ := hpl.at_ htxs
  injection e1 with e1 _ e1c
  subst e1 e1c
  have hTc := hm.T
  obtain ⟨b2, o2, e2, hb2, hT2⟩ := Sl.pos encTx encTx_len hTc (by omega)
  injection e2 with e2
  injection e2 with e2b e2o e2s
  subst e2b e2o
  have htk : t = m.T[k] := by rw [List.getElem?_eq_getElem hkT] at ht; injection ht with ht; exact ht.symm
  have HC := Lib.hid (fun W (hb : Below w2.heap.size w2 W) => (show W.cell? ⟨w.heap.size, 2, none⟩ = some (.slice (some ⟨b1, o1, none⟩) pl.length c) ∧ W.cell? ⟨w.heap.size + 1, 4, none⟩ = some (.slice (some ⟨a.gT, 0, none⟩) pl.length a.cT) ∧ W.cell? ⟨b1, o1 + k, none⟩ = some (.slice A1 txs.length d1) ∧ W.cell? ⟨a.gT, k * 11, none⟩ = some (.int .i64 t.st) ∧ W.cell? ⟨a.gT, k * 11 + 1, none⟩ = some (.int .i64 t.tx) from
    ⟨by rw [(HK.out.keep hb).cell]; rfl, by rw [(HKY.out.keep hb).cell]; rfl, ((HB.out.trans (hb.mono HB.out.size)).cell (p := ⟨b1, o1 + k, none⟩) hb1).trans hc1, by have := hT2 W (HB.out.trans (hb.mono HB.out.size)) k hkT 0 _ rfl; rw [htk]; simpa using this, by have := hT2 W (HB.out.trans (hb.mono HB.out.size)) k hkT 1 _ rfl; rw [htk]; simpa using this⟩))
  obtain ⟨n, hn⟩ : ∃ n, n = pl.length := ⟨_, rfl⟩
  obtain ⟨n2, hn2⟩ : ∃ n, n = txs.length := ⟨_, rfl⟩
  have hlt : (k : Int) < (n : Int) := by omega
  have hge : (0 : Int) ≤ (k : Int) := by omega
  have hnlt : ¬ (n : Int) ≤ (k : Int) := by omega
  rw [← hn] at HC HW ⊢
  rw [← hn2] at HC ⊢
  clear hpl hm hT hTc hT2 hT1 hm1 hc1 htk ht htxs hs hn hn2 hkp hkT h1 h1z h0
  obtain ⟨x, hx⟩ : ∃ x, x = t.st := ⟨_, rfl⟩
  obtain ⟨y, hy⟩ : ∃ y, y = t.tx := ⟨_, rfl⟩
  rw [← hx, ← hy] at HC ⊢
  clear hx hy
  by_cases h0 : x = 0
  · subst h0
    have h0b : ((0 : Int) == 0) = true := rfl
    rw [show ((0 : Int) == 0 && decide ((n2 : Int) ≤ y)) = decide ((n2 : Int) ≤ y) from by simp]
    go_enter Try.func16, Try.ntmps16
    go_wp2_with fail
    rw [HW.out]
    refine wp_region_held_drew (S := fun W => W.cell? ⟨w.heap.size, 2, none⟩ = some (.slice (some ⟨b1, o1, none⟩) n c) ∧ W.cell? ⟨w.heap.size + 1, 4, none⟩ = some (.slice (some ⟨a.gT, 0, none⟩) n a.cT) ∧ W.cell? ⟨b1, o1 + k, none⟩ = some (.slice A1 n2 d1) ∧ W.cell? ⟨a.gT, k * 11, none⟩ = some (.int .i64 0) ∧ W.cell? ⟨a.gT, k * 11 + 1, none⟩ = some (.int .i64 y)) (by kernel_rfl) ?_ (fun hbr => ?_)
    · exact HC.out _ ((Below.refl _ _).drew)
    refine tkA 0 ?_
    refine tkA 1 ?_
    refine tkA 2 ?_
    refine tkA 3 ?_
    refine tkA 4 ?_
    refine tkA 5 ?_
    refine tkA 6 ?_
    refine tkA 7 ?_
    refine tkA 8 ?_
    refine tkA 9 ?_
    refine tkA 10 ?_
    refine tkA 11 ?_
    refine tkA 12 ?_
    refine tkA 13 ?_
    refine tkA 14 ?_
    refine tkA 15 ?_
    refine tkA 16 ?_
    refine tkA 17 ?_
    refine tkA 18 ?_
    refine tkA 19 ?_
    refine tkA 20 ?_
    refine tkA 21 ?_
    refine tkA 22 ?_
    refine wpAnyH_done (by kernel_rfl) ?_ _
    go_wp2_with fail
    go_ret
    exact ⟨rfl, HB.out.drew⟩
  · have h0b : (x == 0) = false := by simp [h0]
    rw [show (x == 0 && decide ((n2 : Int) ≤ y)) = false from by simp [h0]]
    go_enter Try.func16, Try.ntmps16
    go_wp2_with fail
    rw [HW.out]
    refine wp_region_held_drew (S := fun W => W.cell? ⟨w.heap.size, 2, none⟩ = some (.slice (some ⟨b1, o1, none⟩) n c) ∧ W.cell? ⟨w.heap.size + 1, 4, none⟩ = some (.slice (some ⟨a.gT, 0, none⟩) n a.cT) ∧ W.cell? ⟨b1, o1 + k, none⟩ = some (.slice A1 n2 d1) ∧ W.cell? ⟨a.gT, k * 11, none⟩ = some (.int .i64 x) ∧ W.cell? ⟨a.gT, k * 11 + 1, none⟩ = some (.int .i64 y)) (by kernel_rfl) ?_ (fun hcr => ?_)
    · exact HC.out _ ((Below.refl _ _).drew)
    refine tkA 0 ?_
    refine tkA 1 ?_
    refine tkA 2 ?_
    refine tkA 3 ?_
    refine tkA 4 ?_
    refine tkA 5 ?_
    refine tkA 6 ?_
    refine tkA 7 ?_
    refine skA 8 ?_
    refine skA 9 ?_
    refine skA 10 ?_
    refine skA 11 ?_
    refine skA 12 ?_
    refine skA 13 ?_
    refine skA 14 ?_
    refine skA 15 ?_
    refine skA 16 ?_
    refine skA 17 ?_
    refine skA 18 ?_
    refine skA 19 ?_
    refine skA 20 ?_
    refine tkA 21 ?_
    refine tkA 22 ?_
    refine wpAnyH_done (by kernel_rfl) ?_ _
    go_wp2_with fail
    go_ret
    exact ⟨rfl, HB.out.drew⟩
end Go.Proofs.Ytngimbfojccikaa
