/- The walk of PageBack. -/
import Derived.Test.YtelfkopoppfaaaaPgBackPlain
import Derived.Deep.RegionHeld3
import Derived.Deep.DrawnRows
namespace Go.Proofs.Ytelfkopoppfaaaa
open Go Go.RowKit

theorem same_refl (cap : Int) (ps : List Pg) : sameP cap ps cap ps = true := by
  rw [sameP, eqL_all rfl (fun j h => by simp [pgEq])]
  simp

set_option maxRecDepth 100000 in
set_option maxHeartbeats 4000000 in
theorem back_nofull (w : World) (A0 : Option Addr) (c0 : Nat) (cap0 : Int) (ps0 qsA : List Pg) (p e1 : Int) (hst0 : StV w (.agg #[.int .i64 cap0, .slice A0 ps0.length c0]) cap0 ps0) (hm : mayP cap0 ps0 = true)
    (hA : shareL cap0 ps0 p = (e1, qsA)) (he1 : (e1 == 0) = false)
    (hC : allocL cap0 ps0 ⟨0, 0, 0, 0, 0⟩ = (-1, 8, ps0)) :
    Calls Try.prog 9 #[.agg #[.int .i64 cap0, .slice A0 ps0.length c0], .int .i64 p] w fun e w' => e = .returned (.bool true) ∧ Below w.heap.size w w' := by
  have hlen := may_len hm
  have hmay := fun sv W h => may_any cap0 sv ps0 W h
  rw [hm] at hmay
  have hsh := fun v W hs => Share_any v cap0 ps0 p W hs (by omega)
  rw [hA] at hsh
  have hal := fun v W hs => Alloc_any v cap0 ps0 W hs (by omega)
  rw [show allocX cap0 ps0 = allocL cap0 ps0 ⟨0, 0, 0, 0, 0⟩ from by simp [allocX, hm], hC] at hal
  have hus := fun v W hs => Used_any v cap0 ps0 W hs
  have hfu := alloc_full_used hm hC
  rw [hfu] at hus
  clear hlen hA hC hm hfu
  go_enter Try.func9, Try.ntmps9
  have hA0 := ((Below.refl w.heap.size w).alloc (Nat.le_refl _) (.cells #[.int .i64 cap0, .slice A0 ps0.length c0] 25))
  replace hst0 := hst0.keep hA0
  have kS := Blk.new_ w 25 #[.int .i64 cap0, .slice A0 ps0.length c0] (w.heap.size) (by simp)
  have hZ0 : Below w.heap.size w _ := hA0
  go_wp2_with fail
  refine (awake_any _).mono ?_
  rintro e w1 ⟨rfl, hb1⟩
  obtain ⟨hc1, hf1⟩ := bcell hb1
  have hz1 := hb1.size
  simp at hz1
  replace hst0 := hst0.keep hb1
  replace kS := kS.keep hb1
  have hY1 := hZ0.trans (hb1.mono hZ0.size)
  have zkS_1 : w.heap.size < w1.heap.size := by omega
  have hZ1 : Below w.heap.size w w1 := hY1
  go_wp2_with fail
  refine (hmay _ _ hst0.sl).mono ?_
  rintro e w2 ⟨rfl, hb2⟩
  obtain ⟨hc2, hf2⟩ := bcell hb2
  have hz2 := hb2.size
  replace hst0 := hst0.keep hb2
  replace kS := kS.keep hb2
  have hY2 := hZ1.trans (hb2.mono hZ1.size)
  have zkS_2 : w.heap.size < w2.heap.size := by omega
  have hZ2 : Below w.heap.size w w2 := hY2
  go_wp2_with fail
  refine (hsh _ _ hst0).mono ?_
  rintro e w3 ⟨v3, rfl, hstA, hb3⟩
  obtain ⟨hc3, hf3⟩ := bcell hb3
  have hz3 := hb3.size
  replace hst0 := hst0.keep hb3
  replace kS := kS.keep hb3
  have hY3 := hZ2.trans (hb3.mono hZ2.size)
  have zkS_3 : w.heap.size < w3.heap.size := by omega
  obtain ⟨AA, cA, rfl, hstA⟩ := hstA.form
  have hA3 := ((Below.refl w3.heap.size w3).alloc (Nat.le_refl _) (.cells #[.int .i64 cap0, .slice AA qsA.length cA] 25))
  replace hst0 := hst0.keep hA3
  replace kS := kS.keep hA3
  replace hstA := hstA.keep hA3
  have kA := Blk.new_ w3 25 #[.int .i64 cap0, .slice AA qsA.length cA] (w3.heap.size) (by simp)
  have hZ3 : Below w.heap.size w _ := hY3.trans (hA3.mono hY3.size)
  go_wp2_with fail
  refine (hal _ _ hst0).mono ?_
  rintro e w4 ⟨v4, rfl, hstC, hb4, -⟩
  obtain ⟨hc4, hf4⟩ := bcell hb4
  have hz4 := hb4.size
  simp at hz4
  replace hst0 := hst0.keep hb4
  replace kS := kS.keep hb4
  replace hstA := hstA.keep hb4
  replace kA := kA.keep hb4
  have hY4 := hZ3.trans (hb4.mono hZ3.size)
  have zkS_4 : w.heap.size < w4.heap.size := by omega
  have zkA_4 : w3.heap.size < w4.heap.size := by omega
  obtain ⟨AC, cC, rfl, hstC⟩ := hstC.form
  go_wp2_with fail
  have hA4 := ((Below.refl w4.heap.size w4).alloc (Nat.le_refl _) (.cells #[.int .i64 cap0, .slice AC ps0.length cC] 25))
  replace hst0 := hst0.keep hA4
  replace kS := kS.keep hA4
  replace hstA := hstA.keep hA4
  replace kA := kA.keep hA4
  replace hstC := hstC.keep hA4
  have kC := Blk.new_ w4 25 #[.int .i64 cap0, .slice AC ps0.length cC] (w4.heap.size) (by simp)
  have hZ4 : Below w.heap.size w _ := hY4.trans (hA4.mono hY4.size)
  obtain ⟨w5, hw5⟩ : ∃ x, (w4.alloc (.cells #[.int .i64 cap0, .slice AC ps0.length cC] 25)) = x := ⟨_, rfl⟩
  rw [hw5] at hst0
  rw [hw5] at kS
  rw [hw5] at hstA
  rw [hw5] at kA
  rw [hw5] at hstC
  rw [hw5] at kC
  have hY5 := hZ4
  rw [hw5] at hY5 ⊢
  have kS_lt := kS.lt
  have kS_0 : w5.cell? ⟨w.heap.size, 0, none⟩ = some (.int .i64 cap0) := by rw [kS.cell]; rfl
  have kS_1 : w5.cell? ⟨w.heap.size, 1, none⟩ = some (.slice A0 ps0.length c0) := by rw [kS.cell]; rfl
  have kA_lt := kA.lt
  have kA_0 : w5.cell? ⟨w3.heap.size, 0, none⟩ = some (.int .i64 cap0) := by rw [kA.cell]; rfl
  have kA_1 : w5.cell? ⟨w3.heap.size, 1, none⟩ = some (.slice AA qsA.length cA) := by rw [kA.cell]; rfl
  have kC_lt := kC.lt
  have kC_0 : w5.cell? ⟨w4.heap.size, 0, none⟩ = some (.int .i64 cap0) := by rw [kC.cell]; rfl
  have kC_1 : w5.cell? ⟨w4.heap.size, 1, none⟩ = some (.slice AC ps0.length cC) := by rw [kC.cell]; rfl
  have BW := (Below.refl w5.heap.size w5).drew
  go_region_held3 (fun w' => w'.cell? ⟨w.heap.size, 0, none⟩ = some (.int .i64 cap0) ∧ w'.cell? ⟨w.heap.size, 1, none⟩ = some (.slice A0 ps0.length c0) ∧ w'.cell? ⟨w3.heap.size, 0, none⟩ = some (.int .i64 cap0) ∧ w'.cell? ⟨w3.heap.size, 1, none⟩ = some (.slice AA qsA.length cA) ∧ w'.cell? ⟨w4.heap.size, 0, none⟩ = some (.int .i64 cap0) ∧ w'.cell? ⟨w4.heap.size, 1, none⟩ = some (.slice AC ps0.length cC) ∧ Below w5.heap.size w5 w')
    (first | exact ⟨(BW.cell (p := ⟨w.heap.size, 0, none⟩) kS_lt).trans kS_0, (BW.cell (p := ⟨w.heap.size, 1, none⟩) kS_lt).trans kS_1, (BW.cell (p := ⟨w3.heap.size, 0, none⟩) kA_lt).trans kA_0, (BW.cell (p := ⟨w3.heap.size, 1, none⟩) kA_lt).trans kA_1, (BW.cell (p := ⟨w4.heap.size, 0, none⟩) kC_lt).trans kC_0, (BW.cell (p := ⟨w4.heap.size, 1, none⟩) kC_lt).trans kC_1, BW⟩ | exact ⟨(hX.cell (p := ⟨w.heap.size, 0, none⟩) kS_lt).trans kS_0, (hX.cell (p := ⟨w.heap.size, 1, none⟩) kS_lt).trans kS_1, (hX.cell (p := ⟨w3.heap.size, 0, none⟩) kA_lt).trans kA_0, (hX.cell (p := ⟨w3.heap.size, 1, none⟩) kA_lt).trans kA_1, (hX.cell (p := ⟨w4.heap.size, 0, none⟩) kC_lt).trans kC_0, (hX.cell (p := ⟨w4.heap.size, 1, none⟩) kC_lt).trans kC_1, hX⟩ | go_keep)
    (first | (go_at_call 13; refine (hus _ _ (hst0.keep (‹World.cell? _ _ = _ ∧ World.cell? _ _ = _ ∧ World.cell? _ _ = _ ∧ World.cell? _ _ = _ ∧ World.cell? _ _ = _ ∧ World.cell? _ _ = _ ∧ Below _ _ _›.2.2.2.2.2.2))).mono ?_; rintro e w' ⟨rfl, hb'⟩; have hX := (‹World.cell? _ _ = _ ∧ World.cell? _ _ = _ ∧ World.cell? _ _ = _ ∧ World.cell? _ _ = _ ∧ World.cell? _ _ = _ ∧ World.cell? _ _ = _ ∧ Below _ _ _›.2.2.2.2.2.2).trans (hb'.mono (‹World.cell? _ _ = _ ∧ World.cell? _ _ = _ ∧ World.cell? _ _ = _ ∧ World.cell? _ _ = _ ∧ World.cell? _ _ = _ ∧ World.cell? _ _ = _ ∧ Below _ _ _›.2.2.2.2.2.2).size)))
  obtain ⟨w6, hw6⟩ : ∃ x, w' = x := ⟨_, rfl⟩
  have hb6 := hX
  rw [hw6] at hb6 ⊢
  clear hw6 hX BW
  replace hst0 := hst0.keep hb6
  replace kS := kS.keep hb6
  replace hstA := hstA.keep hb6
  replace kA := kA.keep hb6
  replace hstC := hstC.keep hb6
  replace kC := kC.keep hb6
  have hY6 := hY5.trans (hb6.mono hY5.size)
  clear kS_0
  clear kS_1
  clear kS_lt
  clear kA_0
  clear kA_1
  clear kA_lt
  clear kC_0
  clear kC_1
  clear kC_lt
  have kS_lt := kS.lt
  have kS_0 : w6.cell? ⟨w.heap.size, 0, none⟩ = some (.int .i64 cap0) := by rw [kS.cell]; rfl
  have kS_1 : w6.cell? ⟨w.heap.size, 1, none⟩ = some (.slice A0 ps0.length c0) := by rw [kS.cell]; rfl
  have kA_lt := kA.lt
  have kA_0 : w6.cell? ⟨w3.heap.size, 0, none⟩ = some (.int .i64 cap0) := by rw [kA.cell]; rfl
  have kA_1 : w6.cell? ⟨w3.heap.size, 1, none⟩ = some (.slice AA qsA.length cA) := by rw [kA.cell]; rfl
  have kC_lt := kC.lt
  have kC_0 : w6.cell? ⟨w4.heap.size, 0, none⟩ = some (.int .i64 cap0) := by rw [kC.cell]; rfl
  have kC_1 : w6.cell? ⟨w4.heap.size, 1, none⟩ = some (.slice AC ps0.length cC) := by rw [kC.cell]; rfl
  go_wp2
  go_ret
  exact ⟨rfl, hY6⟩

set_option maxRecDepth 100000 in
set_option maxHeartbeats 4000000 in
theorem back_nomore (w : World) (A0 : Option Addr) (c0 : Nat) (cap0 : Int) (ps0 qsA qsC rsC : List Pg) (p e1 jC : Int) (hst0 : StV w (.agg #[.int .i64 cap0, .slice A0 ps0.length c0]) cap0 ps0) (hm : mayP cap0 ps0 = true)
    (hA : shareL cap0 ps0 p = (e1, qsA)) (he1 : (e1 == 0) = false)
    (hC : allocL cap0 ps0 ⟨0, 0, 0, 0, 0⟩ = (jC, 0, qsC)) (hFC : freeX cap0 qsC jC = (0, rsC)) (hUC : usedL cap0 qsC = usedL cap0 ps0 + 1) (hUD : usedL cap0 rsC = usedL cap0 ps0) (hqC : qsC.length ≤ 13) :
    Calls Try.prog 9 #[.agg #[.int .i64 cap0, .slice A0 ps0.length c0], .int .i64 p] w fun e w' => e = .returned (.bool true) ∧ Below w.heap.size w w' := by
  have hlen := may_len hm
  have hmay := fun sv W h => may_any cap0 sv ps0 W h
  rw [hm] at hmay
  have hsh := fun v W hs => Share_any v cap0 ps0 p W hs (by omega)
  rw [hA] at hsh
  have hal := fun v W hs => Alloc_any v cap0 ps0 W hs (by omega)
  rw [show allocX cap0 ps0 = allocL cap0 ps0 ⟨0, 0, 0, 0, 0⟩ from by simp [allocX, hm], hC] at hal
  have hus := fun v W hs => Used_any v cap0 ps0 W hs
  have hfrC := fun v W hs => Free_any v cap0 qsC jC W hs (by omega)
  rw [hFC] at hfrC
  have husC := fun v W hs => Used_any v cap0 qsC W hs
  rw [hUC] at husC
  have husD := fun v W hs => Used_any v cap0 rsC W hs
  rw [hUD] at husD
  have hub : 0 ≤ usedL cap0 ps0 ∧ usedL cap0 ps0 ≤ 1000 := by
    rw [usedL, if_pos hm]; have := usedN_le ps0; omega
  generalize usedL cap0 ps0 = U at hus husC husD hub
  have hub1 := hub.1
  have hub2 := hub.2
  clear hlen hA hC hm hFC hUC hUD hqC hub
  go_enter Try.func9, Try.ntmps9
  have hA0 := ((Below.refl w.heap.size w).alloc (Nat.le_refl _) (.cells #[.int .i64 cap0, .slice A0 ps0.length c0] 25))
  replace hst0 := hst0.keep hA0
  have kS := Blk.new_ w 25 #[.int .i64 cap0, .slice A0 ps0.length c0] (w.heap.size) (by simp)
  have hZ0 : Below w.heap.size w _ := hA0
  go_wp2_with fail
  refine (awake_any _).mono ?_
  rintro e w1 ⟨rfl, hb1⟩
  obtain ⟨hc1, hf1⟩ := bcell hb1
  have hz1 := hb1.size
  simp at hz1
  replace hst0 := hst0.keep hb1
  replace kS := kS.keep hb1
  have hY1 := hZ0.trans (hb1.mono hZ0.size)
  have zkS_1 : w.heap.size < w1.heap.size := by omega
  have hZ1 : Below w.heap.size w w1 := hY1
  go_wp2_with fail
  refine (hmay _ _ hst0.sl).mono ?_
  rintro e w2 ⟨rfl, hb2⟩
  obtain ⟨hc2, hf2⟩ := bcell hb2
  have hz2 := hb2.size
  replace hst0 := hst0.keep hb2
  replace kS := kS.keep hb2
  have hY2 := hZ1.trans (hb2.mono hZ1.size)
  have zkS_2 : w.heap.size < w2.heap.size := by omega
  have hZ2 : Below w.heap.size w w2 := hY2
  go_wp2_with fail
  refine (hsh _ _ hst0).mono ?_
  rintro e w3 ⟨v3, rfl, hstA, hb3⟩
  obtain ⟨hc3, hf3⟩ := bcell hb3
  have hz3 := hb3.size
  replace hst0 := hst0.keep hb3
  replace kS := kS.keep hb3
  have hY3 := hZ2.trans (hb3.mono hZ2.size)
  have zkS_3 : w.heap.size < w3.heap.size := by omega
  obtain ⟨AA, cA, rfl, hstA⟩ := hstA.form
  have hA3 := ((Below.refl w3.heap.size w3).alloc (Nat.le_refl _) (.cells #[.int .i64 cap0, .slice AA qsA.length cA] 25))
  replace hst0 := hst0.keep hA3
  replace kS := kS.keep hA3
  replace hstA := hstA.keep hA3
  have kA := Blk.new_ w3 25 #[.int .i64 cap0, .slice AA qsA.length cA] (w3.heap.size) (by simp)
  have hZ3 : Below w.heap.size w _ := hY3.trans (hA3.mono hY3.size)
  go_wp2_with fail
  refine (hal _ _ hst0).mono ?_
  rintro e w4 ⟨v4, rfl, hstC, hb4, -⟩
  obtain ⟨hc4, hf4⟩ := bcell hb4
  have hz4 := hb4.size
  simp at hz4
  replace hst0 := hst0.keep hb4
  replace kS := kS.keep hb4
  replace hstA := hstA.keep hb4
  replace kA := kA.keep hb4
  have hY4 := hZ3.trans (hb4.mono hZ3.size)
  have zkS_4 : w.heap.size < w4.heap.size := by omega
  have zkA_4 : w3.heap.size < w4.heap.size := by omega
  obtain ⟨AC, cC, rfl, hstC⟩ := hstC.form
  have hA4 := ((Below.refl w4.heap.size w4).alloc (Nat.le_refl _) (.cells #[.int .i64 cap0, .slice AC qsC.length cC] 25))
  replace hst0 := hst0.keep hA4
  replace kS := kS.keep hA4
  replace hstA := hstA.keep hA4
  replace kA := kA.keep hA4
  replace hstC := hstC.keep hA4
  have kC := Blk.new_ w4 25 #[.int .i64 cap0, .slice AC qsC.length cC] (w4.heap.size) (by simp)
  have hZ4 : Below w.heap.size w _ := hY4.trans (hA4.mono hY4.size)
  go_wp2_with fail
  refine (hfrC _ _ hstC).mono ?_
  rintro e w5 ⟨v5, rfl, hstD, hb5⟩
  obtain ⟨hc5, hf5⟩ := bcell hb5
  have hz5 := hb5.size
  simp at hz5
  replace hst0 := hst0.keep hb5
  replace kS := kS.keep hb5
  replace hstA := hstA.keep hb5
  replace kA := kA.keep hb5
  replace hstC := hstC.keep hb5
  replace kC := kC.keep hb5
  have hY5 := hZ4.trans (hb5.mono hZ4.size)
  have zkS_5 : w.heap.size < w5.heap.size := by omega
  have zkA_5 : w3.heap.size < w5.heap.size := by omega
  have zkC_5 : w4.heap.size < w5.heap.size := by omega
  obtain ⟨AD, cD, rfl, hstD⟩ := hstD.form
  go_wp2_with fail
  have hA5 := ((Below.refl w5.heap.size w5).alloc (Nat.le_refl _) (.cells #[.int .i64 cap0, .slice AD rsC.length cD] 25))
  replace hst0 := hst0.keep hA5
  replace kS := kS.keep hA5
  replace hstA := hstA.keep hA5
  replace kA := kA.keep hA5
  replace hstC := hstC.keep hA5
  replace kC := kC.keep hA5
  replace hstD := hstD.keep hA5
  have kD := Blk.new_ w5 25 #[.int .i64 cap0, .slice AD rsC.length cD] (w5.heap.size) (by simp)
  have hZ5 : Below w.heap.size w _ := hY5.trans (hA5.mono hY5.size)
  obtain ⟨w6, hw6⟩ : ∃ x, (w5.alloc (.cells #[.int .i64 cap0, .slice AD rsC.length cD] 25)) = x := ⟨_, rfl⟩
  rw [hw6] at hst0
  rw [hw6] at kS
  rw [hw6] at hstA
  rw [hw6] at kA
  rw [hw6] at hstC
  rw [hw6] at kC
  rw [hw6] at hstD
  rw [hw6] at kD
  have hY6 := hZ5
  rw [hw6] at hY6 ⊢
  have kS_lt := kS.lt
  have kS_0 : w6.cell? ⟨w.heap.size, 0, none⟩ = some (.int .i64 cap0) := by rw [kS.cell]; rfl
  have kS_1 : w6.cell? ⟨w.heap.size, 1, none⟩ = some (.slice A0 ps0.length c0) := by rw [kS.cell]; rfl
  have kA_lt := kA.lt
  have kA_0 : w6.cell? ⟨w3.heap.size, 0, none⟩ = some (.int .i64 cap0) := by rw [kA.cell]; rfl
  have kA_1 : w6.cell? ⟨w3.heap.size, 1, none⟩ = some (.slice AA qsA.length cA) := by rw [kA.cell]; rfl
  have kC_lt := kC.lt
  have kC_0 : w6.cell? ⟨w4.heap.size, 0, none⟩ = some (.int .i64 cap0) := by rw [kC.cell]; rfl
  have kC_1 : w6.cell? ⟨w4.heap.size, 1, none⟩ = some (.slice AC qsC.length cC) := by rw [kC.cell]; rfl
  have kD_lt := kD.lt
  have kD_0 : w6.cell? ⟨w5.heap.size, 0, none⟩ = some (.int .i64 cap0) := by rw [kD.cell]; rfl
  have kD_1 : w6.cell? ⟨w5.heap.size, 1, none⟩ = some (.slice AD rsC.length cD) := by rw [kD.cell]; rfl
  have hwr : IntKind.i64.wrap (U + 1) = U + 1 := IntWalk.i64_in _ (by omega)
  have BW := (Below.refl w6.heap.size w6).drew
  go_region_held3 (fun w' => w'.cell? ⟨w.heap.size, 0, none⟩ = some (.int .i64 cap0) ∧ w'.cell? ⟨w.heap.size, 1, none⟩ = some (.slice A0 ps0.length c0) ∧ w'.cell? ⟨w3.heap.size, 0, none⟩ = some (.int .i64 cap0) ∧ w'.cell? ⟨w3.heap.size, 1, none⟩ = some (.slice AA qsA.length cA) ∧ w'.cell? ⟨w4.heap.size, 0, none⟩ = some (.int .i64 cap0) ∧ w'.cell? ⟨w4.heap.size, 1, none⟩ = some (.slice AC qsC.length cC) ∧ w'.cell? ⟨w5.heap.size, 0, none⟩ = some (.int .i64 cap0) ∧ w'.cell? ⟨w5.heap.size, 1, none⟩ = some (.slice AD rsC.length cD) ∧ Below w6.heap.size w6 w')
    (first | exact ⟨(BW.cell (p := ⟨w.heap.size, 0, none⟩) kS_lt).trans kS_0, (BW.cell (p := ⟨w.heap.size, 1, none⟩) kS_lt).trans kS_1, (BW.cell (p := ⟨w3.heap.size, 0, none⟩) kA_lt).trans kA_0, (BW.cell (p := ⟨w3.heap.size, 1, none⟩) kA_lt).trans kA_1, (BW.cell (p := ⟨w4.heap.size, 0, none⟩) kC_lt).trans kC_0, (BW.cell (p := ⟨w4.heap.size, 1, none⟩) kC_lt).trans kC_1, (BW.cell (p := ⟨w5.heap.size, 0, none⟩) kD_lt).trans kD_0, (BW.cell (p := ⟨w5.heap.size, 1, none⟩) kD_lt).trans kD_1, BW⟩ | exact ⟨(hX.cell (p := ⟨w.heap.size, 0, none⟩) kS_lt).trans kS_0, (hX.cell (p := ⟨w.heap.size, 1, none⟩) kS_lt).trans kS_1, (hX.cell (p := ⟨w3.heap.size, 0, none⟩) kA_lt).trans kA_0, (hX.cell (p := ⟨w3.heap.size, 1, none⟩) kA_lt).trans kA_1, (hX.cell (p := ⟨w4.heap.size, 0, none⟩) kC_lt).trans kC_0, (hX.cell (p := ⟨w4.heap.size, 1, none⟩) kC_lt).trans kC_1, (hX.cell (p := ⟨w5.heap.size, 0, none⟩) kD_lt).trans kD_0, (hX.cell (p := ⟨w5.heap.size, 1, none⟩) kD_lt).trans kD_1, hX⟩ | go_keep)
    (first | (go_at_call_of 13 (Value.agg #[Value.int IntKind.i64 cap0, Value.slice AC qsC.length cC]); refine (husC _ _ (hstC.keep (‹World.cell? _ _ = _ ∧ World.cell? _ _ = _ ∧ World.cell? _ _ = _ ∧ World.cell? _ _ = _ ∧ World.cell? _ _ = _ ∧ World.cell? _ _ = _ ∧ World.cell? _ _ = _ ∧ World.cell? _ _ = _ ∧ Below _ _ _›.2.2.2.2.2.2.2.2))).mono ?_; rintro e w' ⟨rfl, hb'⟩; have hX := (‹World.cell? _ _ = _ ∧ World.cell? _ _ = _ ∧ World.cell? _ _ = _ ∧ World.cell? _ _ = _ ∧ World.cell? _ _ = _ ∧ World.cell? _ _ = _ ∧ World.cell? _ _ = _ ∧ World.cell? _ _ = _ ∧ Below _ _ _›.2.2.2.2.2.2.2.2).trans (hb'.mono (‹World.cell? _ _ = _ ∧ World.cell? _ _ = _ ∧ World.cell? _ _ = _ ∧ World.cell? _ _ = _ ∧ World.cell? _ _ = _ ∧ World.cell? _ _ = _ ∧ World.cell? _ _ = _ ∧ World.cell? _ _ = _ ∧ Below _ _ _›.2.2.2.2.2.2.2.2).size)) | (go_at_call_of 13 (Value.agg #[Value.int IntKind.i64 cap0, Value.slice AD rsC.length cD]); refine (husD _ _ (hstD.keep (‹World.cell? _ _ = _ ∧ World.cell? _ _ = _ ∧ World.cell? _ _ = _ ∧ World.cell? _ _ = _ ∧ World.cell? _ _ = _ ∧ World.cell? _ _ = _ ∧ World.cell? _ _ = _ ∧ World.cell? _ _ = _ ∧ Below _ _ _›.2.2.2.2.2.2.2.2))).mono ?_; rintro e w' ⟨rfl, hb'⟩; have hX := (‹World.cell? _ _ = _ ∧ World.cell? _ _ = _ ∧ World.cell? _ _ = _ ∧ World.cell? _ _ = _ ∧ World.cell? _ _ = _ ∧ World.cell? _ _ = _ ∧ World.cell? _ _ = _ ∧ World.cell? _ _ = _ ∧ Below _ _ _›.2.2.2.2.2.2.2.2).trans (hb'.mono (‹World.cell? _ _ = _ ∧ World.cell? _ _ = _ ∧ World.cell? _ _ = _ ∧ World.cell? _ _ = _ ∧ World.cell? _ _ = _ ∧ World.cell? _ _ = _ ∧ World.cell? _ _ = _ ∧ World.cell? _ _ = _ ∧ Below _ _ _›.2.2.2.2.2.2.2.2).size)) | (go_at_call 13; refine (hus _ _ (hst0.keep (‹World.cell? _ _ = _ ∧ World.cell? _ _ = _ ∧ World.cell? _ _ = _ ∧ World.cell? _ _ = _ ∧ World.cell? _ _ = _ ∧ World.cell? _ _ = _ ∧ World.cell? _ _ = _ ∧ World.cell? _ _ = _ ∧ Below _ _ _›.2.2.2.2.2.2.2.2))).mono ?_; rintro e w' ⟨rfl, hb'⟩; have hX := (‹World.cell? _ _ = _ ∧ World.cell? _ _ = _ ∧ World.cell? _ _ = _ ∧ World.cell? _ _ = _ ∧ World.cell? _ _ = _ ∧ World.cell? _ _ = _ ∧ World.cell? _ _ = _ ∧ World.cell? _ _ = _ ∧ Below _ _ _›.2.2.2.2.2.2.2.2).trans (hb'.mono (‹World.cell? _ _ = _ ∧ World.cell? _ _ = _ ∧ World.cell? _ _ = _ ∧ World.cell? _ _ = _ ∧ World.cell? _ _ = _ ∧ World.cell? _ _ = _ ∧ World.cell? _ _ = _ ∧ World.cell? _ _ = _ ∧ Below _ _ _›.2.2.2.2.2.2.2.2).size)))
  obtain ⟨w7, hw7⟩ : ∃ x, w' = x := ⟨_, rfl⟩
  have hb7 := hX
  rw [hw7] at hb7 ⊢
  clear hw7 hX BW
  replace hst0 := hst0.keep hb7
  replace kS := kS.keep hb7
  replace hstA := hstA.keep hb7
  replace kA := kA.keep hb7
  replace hstC := hstC.keep hb7
  replace kC := kC.keep hb7
  replace hstD := hstD.keep hb7
  replace kD := kD.keep hb7
  have hY7 := hY6.trans (hb7.mono hY6.size)
  clear kS_0
  clear kS_1
  clear kS_lt
  clear kA_0
  clear kA_1
  clear kA_lt
  clear kC_0
  clear kC_1
  clear kC_lt
  clear kD_0
  clear kD_1
  clear kD_lt
  have kS_lt := kS.lt
  have kS_0 : w7.cell? ⟨w.heap.size, 0, none⟩ = some (.int .i64 cap0) := by rw [kS.cell]; rfl
  have kS_1 : w7.cell? ⟨w.heap.size, 1, none⟩ = some (.slice A0 ps0.length c0) := by rw [kS.cell]; rfl
  have kA_lt := kA.lt
  have kA_0 : w7.cell? ⟨w3.heap.size, 0, none⟩ = some (.int .i64 cap0) := by rw [kA.cell]; rfl
  have kA_1 : w7.cell? ⟨w3.heap.size, 1, none⟩ = some (.slice AA qsA.length cA) := by rw [kA.cell]; rfl
  have kC_lt := kC.lt
  have kC_0 : w7.cell? ⟨w4.heap.size, 0, none⟩ = some (.int .i64 cap0) := by rw [kC.cell]; rfl
  have kC_1 : w7.cell? ⟨w4.heap.size, 1, none⟩ = some (.slice AC qsC.length cC) := by rw [kC.cell]; rfl
  have kD_lt := kD.lt
  have kD_0 : w7.cell? ⟨w5.heap.size, 0, none⟩ = some (.int .i64 cap0) := by rw [kD.cell]; rfl
  have kD_1 : w7.cell? ⟨w5.heap.size, 1, none⟩ = some (.slice AD rsC.length cD) := by rw [kD.cell]; rfl
  clear hwr
  go_wp2
  go_ret
  exact ⟨rfl, hY7⟩

set_option maxRecDepth 100000 in
set_option maxHeartbeats 4000000 in
theorem back_okfull (w : World) (A0 : Option Addr) (c0 : Nat) (cap0 : Int) (ps0 qsA : List Pg) (p : Int) (hst0 : StV w (.agg #[.int .i64 cap0, .slice A0 ps0.length c0]) cap0 ps0) (hm : mayP cap0 ps0 = true)
    (hA : shareL cap0 ps0 p = (0, qsA)) (hFA : freeX cap0 qsA p = (0, ps0)) (hUA : usedL cap0 qsA = usedL cap0 ps0) (hqA : qsA.length ≤ 12)
    (hC : allocL cap0 ps0 ⟨0, 0, 0, 0, 0⟩ = (-1, 8, ps0)) :
    Calls Try.prog 9 #[.agg #[.int .i64 cap0, .slice A0 ps0.length c0], .int .i64 p] w fun e w' => e = .returned (.bool true) ∧ Below w.heap.size w w' := by
  have hlen := may_len hm
  have hmay := fun sv W h => may_any cap0 sv ps0 W h
  rw [hm] at hmay
  have hsh := fun v W hs => Share_any v cap0 ps0 p W hs (by omega)
  rw [hA] at hsh
  have hal := fun v W hs => Alloc_any v cap0 ps0 W hs (by omega)
  rw [show allocX cap0 ps0 = allocL cap0 ps0 ⟨0, 0, 0, 0, 0⟩ from by simp [allocX, hm], hC] at hal
  have hus := fun v W hs => Used_any v cap0 ps0 W hs
  have hfr := fun v W hs => Free_any v cap0 qsA p W hs (by omega)
  rw [hFA] at hfr
  have hsa := fun v1 v2 W h1 h2 => Same_any v1 v2 cap0 cap0 ps0 ps0 W h1 h2
  rw [same_refl] at hsa
  have husA := fun v W hs => Used_any v cap0 qsA W hs
  rw [hUA] at husA
  have hfu := alloc_full_used hm hC
  rw [hfu] at hus husA
  clear hlen hA hC hm hFA hUA hqA hfu
  go_enter Try.func9, Try.ntmps9
  have hA0 := ((Below.refl w.heap.size w).alloc (Nat.le_refl _) (.cells #[.int .i64 cap0, .slice A0 ps0.length c0] 25))
  replace hst0 := hst0.keep hA0
  have kS := Blk.new_ w 25 #[.int .i64 cap0, .slice A0 ps0.length c0] (w.heap.size) (by simp)
  have hZ0 : Below w.heap.size w _ := hA0
  go_wp2_with fail
  refine (awake_any _).mono ?_
  rintro e w1 ⟨rfl, hb1⟩
  obtain ⟨hc1, hf1⟩ := bcell hb1
  have hz1 := hb1.size
  simp at hz1
  replace hst0 := hst0.keep hb1
  replace kS := kS.keep hb1
  have hY1 := hZ0.trans (hb1.mono hZ0.size)
  have zkS_1 : w.heap.size < w1.heap.size := by omega
  have hZ1 : Below w.heap.size w w1 := hY1
  go_wp2_with fail
  refine (hmay _ _ hst0.sl).mono ?_
  rintro e w2 ⟨rfl, hb2⟩
  obtain ⟨hc2, hf2⟩ := bcell hb2
  have hz2 := hb2.size
  replace hst0 := hst0.keep hb2
  replace kS := kS.keep hb2
  have hY2 := hZ1.trans (hb2.mono hZ1.size)
  have zkS_2 : w.heap.size < w2.heap.size := by omega
  have hZ2 : Below w.heap.size w w2 := hY2
  go_wp2_with fail
  refine (hsh _ _ hst0).mono ?_
  rintro e w3 ⟨v3, rfl, hstA, hb3⟩
  obtain ⟨hc3, hf3⟩ := bcell hb3
  have hz3 := hb3.size
  replace hst0 := hst0.keep hb3
  replace kS := kS.keep hb3
  have hY3 := hZ2.trans (hb3.mono hZ2.size)
  have zkS_3 : w.heap.size < w3.heap.size := by omega
  obtain ⟨AA, cA, rfl, hstA⟩ := hstA.form
  have hA3 := ((Below.refl w3.heap.size w3).alloc (Nat.le_refl _) (.cells #[.int .i64 cap0, .slice AA qsA.length cA] 25))
  replace hst0 := hst0.keep hA3
  replace kS := kS.keep hA3
  replace hstA := hstA.keep hA3
  have kA := Blk.new_ w3 25 #[.int .i64 cap0, .slice AA qsA.length cA] (w3.heap.size) (by simp)
  have hZ3 : Below w.heap.size w _ := hY3.trans (hA3.mono hY3.size)
  go_wp2_with fail
  refine (hfr _ _ hstA).mono ?_
  rintro e w4 ⟨v4, rfl, hstB, hb4⟩
  obtain ⟨hc4, hf4⟩ := bcell hb4
  have hz4 := hb4.size
  simp at hz4
  replace hst0 := hst0.keep hb4
  replace kS := kS.keep hb4
  replace hstA := hstA.keep hb4
  replace kA := kA.keep hb4
  have hY4 := hZ3.trans (hb4.mono hZ3.size)
  have zkS_4 : w.heap.size < w4.heap.size := by omega
  have zkA_4 : w3.heap.size < w4.heap.size := by omega
  obtain ⟨AB, cB, rfl, hstB⟩ := hstB.form
  go_wp2_with fail
  have hA4 := ((Below.refl w4.heap.size w4).alloc (Nat.le_refl _) (.cells #[.int .i64 cap0, .slice AB ps0.length cB] 25))
  replace hst0 := hst0.keep hA4
  replace kS := kS.keep hA4
  replace hstA := hstA.keep hA4
  replace kA := kA.keep hA4
  replace hstB := hstB.keep hA4
  have kB := Blk.new_ w4 25 #[.int .i64 cap0, .slice AB ps0.length cB] (w4.heap.size) (by simp)
  have hZ4 : Below w.heap.size w _ := hY4.trans (hA4.mono hY4.size)
  obtain ⟨w5, hw5⟩ : ∃ x, (w4.alloc (.cells #[.int .i64 cap0, .slice AB ps0.length cB] 25)) = x := ⟨_, rfl⟩
  rw [hw5] at hst0
  rw [hw5] at kS
  rw [hw5] at hstA
  rw [hw5] at kA
  rw [hw5] at hstB
  rw [hw5] at kB
  have hY5 := hZ4
  rw [hw5] at hY5 ⊢
  have kS_lt := kS.lt
  have kS_0 : w5.cell? ⟨w.heap.size, 0, none⟩ = some (.int .i64 cap0) := by rw [kS.cell]; rfl
  have kS_1 : w5.cell? ⟨w.heap.size, 1, none⟩ = some (.slice A0 ps0.length c0) := by rw [kS.cell]; rfl
  have kA_lt := kA.lt
  have kA_0 : w5.cell? ⟨w3.heap.size, 0, none⟩ = some (.int .i64 cap0) := by rw [kA.cell]; rfl
  have kA_1 : w5.cell? ⟨w3.heap.size, 1, none⟩ = some (.slice AA qsA.length cA) := by rw [kA.cell]; rfl
  have kB_lt := kB.lt
  have kB_0 : w5.cell? ⟨w4.heap.size, 0, none⟩ = some (.int .i64 cap0) := by rw [kB.cell]; rfl
  have kB_1 : w5.cell? ⟨w4.heap.size, 1, none⟩ = some (.slice AB ps0.length cB) := by rw [kB.cell]; rfl
  have BW := (Below.refl w5.heap.size w5).drew
  go_region_held3 (fun w' => w'.cell? ⟨w.heap.size, 0, none⟩ = some (.int .i64 cap0) ∧ w'.cell? ⟨w.heap.size, 1, none⟩ = some (.slice A0 ps0.length c0) ∧ w'.cell? ⟨w3.heap.size, 0, none⟩ = some (.int .i64 cap0) ∧ w'.cell? ⟨w3.heap.size, 1, none⟩ = some (.slice AA qsA.length cA) ∧ w'.cell? ⟨w4.heap.size, 0, none⟩ = some (.int .i64 cap0) ∧ w'.cell? ⟨w4.heap.size, 1, none⟩ = some (.slice AB ps0.length cB) ∧ Below w5.heap.size w5 w')
    (first | exact ⟨(BW.cell (p := ⟨w.heap.size, 0, none⟩) kS_lt).trans kS_0, (BW.cell (p := ⟨w.heap.size, 1, none⟩) kS_lt).trans kS_1, (BW.cell (p := ⟨w3.heap.size, 0, none⟩) kA_lt).trans kA_0, (BW.cell (p := ⟨w3.heap.size, 1, none⟩) kA_lt).trans kA_1, (BW.cell (p := ⟨w4.heap.size, 0, none⟩) kB_lt).trans kB_0, (BW.cell (p := ⟨w4.heap.size, 1, none⟩) kB_lt).trans kB_1, BW⟩ | exact ⟨(hX.cell (p := ⟨w.heap.size, 0, none⟩) kS_lt).trans kS_0, (hX.cell (p := ⟨w.heap.size, 1, none⟩) kS_lt).trans kS_1, (hX.cell (p := ⟨w3.heap.size, 0, none⟩) kA_lt).trans kA_0, (hX.cell (p := ⟨w3.heap.size, 1, none⟩) kA_lt).trans kA_1, (hX.cell (p := ⟨w4.heap.size, 0, none⟩) kB_lt).trans kB_0, (hX.cell (p := ⟨w4.heap.size, 1, none⟩) kB_lt).trans kB_1, hX⟩ | go_keep)
    (first | (go_at_call 25; refine (hsa _ _ _ (hstB.keep (‹World.cell? _ _ = _ ∧ World.cell? _ _ = _ ∧ World.cell? _ _ = _ ∧ World.cell? _ _ = _ ∧ World.cell? _ _ = _ ∧ World.cell? _ _ = _ ∧ Below _ _ _›.2.2.2.2.2.2)) (hst0.keep (‹World.cell? _ _ = _ ∧ World.cell? _ _ = _ ∧ World.cell? _ _ = _ ∧ World.cell? _ _ = _ ∧ World.cell? _ _ = _ ∧ World.cell? _ _ = _ ∧ Below _ _ _›.2.2.2.2.2.2))).mono ?_; rintro e w' ⟨rfl, hb'⟩; have hX := (‹World.cell? _ _ = _ ∧ World.cell? _ _ = _ ∧ World.cell? _ _ = _ ∧ World.cell? _ _ = _ ∧ World.cell? _ _ = _ ∧ World.cell? _ _ = _ ∧ Below _ _ _›.2.2.2.2.2.2).trans (hb'.mono (‹World.cell? _ _ = _ ∧ World.cell? _ _ = _ ∧ World.cell? _ _ = _ ∧ World.cell? _ _ = _ ∧ World.cell? _ _ = _ ∧ World.cell? _ _ = _ ∧ Below _ _ _›.2.2.2.2.2.2).size)) | (go_at_call_of 13 (Value.agg #[Value.int IntKind.i64 cap0, Value.slice AA qsA.length cA]); refine (husA _ _ (hstA.keep (‹World.cell? _ _ = _ ∧ World.cell? _ _ = _ ∧ World.cell? _ _ = _ ∧ World.cell? _ _ = _ ∧ World.cell? _ _ = _ ∧ World.cell? _ _ = _ ∧ Below _ _ _›.2.2.2.2.2.2))).mono ?_; rintro e w' ⟨rfl, hb'⟩; have hX := (‹World.cell? _ _ = _ ∧ World.cell? _ _ = _ ∧ World.cell? _ _ = _ ∧ World.cell? _ _ = _ ∧ World.cell? _ _ = _ ∧ World.cell? _ _ = _ ∧ Below _ _ _›.2.2.2.2.2.2).trans (hb'.mono (‹World.cell? _ _ = _ ∧ World.cell? _ _ = _ ∧ World.cell? _ _ = _ ∧ World.cell? _ _ = _ ∧ World.cell? _ _ = _ ∧ World.cell? _ _ = _ ∧ Below _ _ _›.2.2.2.2.2.2).size)) | (go_at_call 13; refine (hus _ _ (hst0.keep (‹World.cell? _ _ = _ ∧ World.cell? _ _ = _ ∧ World.cell? _ _ = _ ∧ World.cell? _ _ = _ ∧ World.cell? _ _ = _ ∧ World.cell? _ _ = _ ∧ Below _ _ _›.2.2.2.2.2.2))).mono ?_; rintro e w' ⟨rfl, hb'⟩; have hX := (‹World.cell? _ _ = _ ∧ World.cell? _ _ = _ ∧ World.cell? _ _ = _ ∧ World.cell? _ _ = _ ∧ World.cell? _ _ = _ ∧ World.cell? _ _ = _ ∧ Below _ _ _›.2.2.2.2.2.2).trans (hb'.mono (‹World.cell? _ _ = _ ∧ World.cell? _ _ = _ ∧ World.cell? _ _ = _ ∧ World.cell? _ _ = _ ∧ World.cell? _ _ = _ ∧ World.cell? _ _ = _ ∧ Below _ _ _›.2.2.2.2.2.2).size)))
  obtain ⟨w6, hw6⟩ : ∃ x, w' = x := ⟨_, rfl⟩
  have hb6 := hX
  rw [hw6] at hb6 ⊢
  clear hw6 hX BW
  replace hst0 := hst0.keep hb6
  replace kS := kS.keep hb6
  replace hstA := hstA.keep hb6
  replace kA := kA.keep hb6
  replace hstB := hstB.keep hb6
  replace kB := kB.keep hb6
  have hY6 := hY5.trans (hb6.mono hY5.size)
  clear kS_0
  clear kS_1
  clear kS_lt
  clear kA_0
  clear kA_1
  clear kA_lt
  clear kB_0
  clear kB_1
  clear kB_lt
  have kS_lt := kS.lt
  have kS_0 : w6.cell? ⟨w.heap.size, 0, none⟩ = some (.int .i64 cap0) := by rw [kS.cell]; rfl
  have kS_1 : w6.cell? ⟨w.heap.size, 1, none⟩ = some (.slice A0 ps0.length c0) := by rw [kS.cell]; rfl
  have kA_lt := kA.lt
  have kA_0 : w6.cell? ⟨w3.heap.size, 0, none⟩ = some (.int .i64 cap0) := by rw [kA.cell]; rfl
  have kA_1 : w6.cell? ⟨w3.heap.size, 1, none⟩ = some (.slice AA qsA.length cA) := by rw [kA.cell]; rfl
  have kB_lt := kB.lt
  have kB_0 : w6.cell? ⟨w4.heap.size, 0, none⟩ = some (.int .i64 cap0) := by rw [kB.cell]; rfl
  have kB_1 : w6.cell? ⟨w4.heap.size, 1, none⟩ = some (.slice AB ps0.length cB) := by rw [kB.cell]; rfl
  have hZ6 : Below w.heap.size w w6 := hY6
  go_wp2_with fail
  refine (hal _ _ hst0).mono ?_
  rintro e w7 ⟨v7, rfl, hstC, hb7, -⟩
  obtain ⟨hc7, hf7⟩ := bcell hb7
  have hz7 := hb7.size
  replace hst0 := hst0.keep hb7
  replace kS := kS.keep hb7
  replace hstA := hstA.keep hb7
  replace kA := kA.keep hb7
  replace hstB := hstB.keep hb7
  replace kB := kB.keep hb7
  have hY7 := hZ6.trans (hb7.mono hZ6.size)
  have zkS_7 : w.heap.size < w7.heap.size := by omega
  have zkA_7 : w3.heap.size < w7.heap.size := by omega
  have zkB_7 : w4.heap.size < w7.heap.size := by omega
  obtain ⟨AC, cC, rfl, hstC⟩ := hstC.form
  go_wp2_with fail
  have hA7 := ((Below.refl w7.heap.size w7).alloc (Nat.le_refl _) (.cells #[.int .i64 cap0, .slice AC ps0.length cC] 25))
  replace hst0 := hst0.keep hA7
  replace kS := kS.keep hA7
  replace hstA := hstA.keep hA7
  replace kA := kA.keep hA7
  replace hstB := hstB.keep hA7
  replace kB := kB.keep hA7
  replace hstC := hstC.keep hA7
  have kC := Blk.new_ w7 25 #[.int .i64 cap0, .slice AC ps0.length cC] (w7.heap.size) (by simp)
  have hZ7 : Below w.heap.size w _ := hY7.trans (hA7.mono hY7.size)
  obtain ⟨w8, hw8⟩ : ∃ x, (w7.alloc (.cells #[.int .i64 cap0, .slice AC ps0.length cC] 25)) = x := ⟨_, rfl⟩
  rw [hw8] at hst0
  rw [hw8] at kS
  rw [hw8] at hstA
  rw [hw8] at kA
  rw [hw8] at hstB
  rw [hw8] at kB
  rw [hw8] at hstC
  rw [hw8] at kC
  have hY8 := hZ7
  rw [hw8] at hY8 ⊢
  have kS_lt := kS.lt
  have kS_0 : w8.cell? ⟨w.heap.size, 0, none⟩ = some (.int .i64 cap0) := by rw [kS.cell]; rfl
  have kS_1 : w8.cell? ⟨w.heap.size, 1, none⟩ = some (.slice A0 ps0.length c0) := by rw [kS.cell]; rfl
  have kA_lt := kA.lt
  have kA_0 : w8.cell? ⟨w3.heap.size, 0, none⟩ = some (.int .i64 cap0) := by rw [kA.cell]; rfl
  have kA_1 : w8.cell? ⟨w3.heap.size, 1, none⟩ = some (.slice AA qsA.length cA) := by rw [kA.cell]; rfl
  have kB_lt := kB.lt
  have kB_0 : w8.cell? ⟨w4.heap.size, 0, none⟩ = some (.int .i64 cap0) := by rw [kB.cell]; rfl
  have kB_1 : w8.cell? ⟨w4.heap.size, 1, none⟩ = some (.slice AB ps0.length cB) := by rw [kB.cell]; rfl
  have kC_lt := kC.lt
  have kC_0 : w8.cell? ⟨w7.heap.size, 0, none⟩ = some (.int .i64 cap0) := by rw [kC.cell]; rfl
  have kC_1 : w8.cell? ⟨w7.heap.size, 1, none⟩ = some (.slice AC ps0.length cC) := by rw [kC.cell]; rfl
  have BW := (Below.refl w8.heap.size w8).drew
  go_region_held3 (fun w' => w'.cell? ⟨w.heap.size, 0, none⟩ = some (.int .i64 cap0) ∧ w'.cell? ⟨w.heap.size, 1, none⟩ = some (.slice A0 ps0.length c0) ∧ w'.cell? ⟨w3.heap.size, 0, none⟩ = some (.int .i64 cap0) ∧ w'.cell? ⟨w3.heap.size, 1, none⟩ = some (.slice AA qsA.length cA) ∧ w'.cell? ⟨w4.heap.size, 0, none⟩ = some (.int .i64 cap0) ∧ w'.cell? ⟨w4.heap.size, 1, none⟩ = some (.slice AB ps0.length cB) ∧ w'.cell? ⟨w7.heap.size, 0, none⟩ = some (.int .i64 cap0) ∧ w'.cell? ⟨w7.heap.size, 1, none⟩ = some (.slice AC ps0.length cC) ∧ Below w8.heap.size w8 w')
    (first | exact ⟨(BW.cell (p := ⟨w.heap.size, 0, none⟩) kS_lt).trans kS_0, (BW.cell (p := ⟨w.heap.size, 1, none⟩) kS_lt).trans kS_1, (BW.cell (p := ⟨w3.heap.size, 0, none⟩) kA_lt).trans kA_0, (BW.cell (p := ⟨w3.heap.size, 1, none⟩) kA_lt).trans kA_1, (BW.cell (p := ⟨w4.heap.size, 0, none⟩) kB_lt).trans kB_0, (BW.cell (p := ⟨w4.heap.size, 1, none⟩) kB_lt).trans kB_1, (BW.cell (p := ⟨w7.heap.size, 0, none⟩) kC_lt).trans kC_0, (BW.cell (p := ⟨w7.heap.size, 1, none⟩) kC_lt).trans kC_1, BW⟩ | exact ⟨(hX.cell (p := ⟨w.heap.size, 0, none⟩) kS_lt).trans kS_0, (hX.cell (p := ⟨w.heap.size, 1, none⟩) kS_lt).trans kS_1, (hX.cell (p := ⟨w3.heap.size, 0, none⟩) kA_lt).trans kA_0, (hX.cell (p := ⟨w3.heap.size, 1, none⟩) kA_lt).trans kA_1, (hX.cell (p := ⟨w4.heap.size, 0, none⟩) kB_lt).trans kB_0, (hX.cell (p := ⟨w4.heap.size, 1, none⟩) kB_lt).trans kB_1, (hX.cell (p := ⟨w7.heap.size, 0, none⟩) kC_lt).trans kC_0, (hX.cell (p := ⟨w7.heap.size, 1, none⟩) kC_lt).trans kC_1, hX⟩ | go_keep)
    (first | (go_at_call 13; refine (hus _ _ (hst0.keep (‹World.cell? _ _ = _ ∧ World.cell? _ _ = _ ∧ World.cell? _ _ = _ ∧ World.cell? _ _ = _ ∧ World.cell? _ _ = _ ∧ World.cell? _ _ = _ ∧ World.cell? _ _ = _ ∧ World.cell? _ _ = _ ∧ Below _ _ _›.2.2.2.2.2.2.2.2))).mono ?_; rintro e w' ⟨rfl, hb'⟩; have hX := (‹World.cell? _ _ = _ ∧ World.cell? _ _ = _ ∧ World.cell? _ _ = _ ∧ World.cell? _ _ = _ ∧ World.cell? _ _ = _ ∧ World.cell? _ _ = _ ∧ World.cell? _ _ = _ ∧ World.cell? _ _ = _ ∧ Below _ _ _›.2.2.2.2.2.2.2.2).trans (hb'.mono (‹World.cell? _ _ = _ ∧ World.cell? _ _ = _ ∧ World.cell? _ _ = _ ∧ World.cell? _ _ = _ ∧ World.cell? _ _ = _ ∧ World.cell? _ _ = _ ∧ World.cell? _ _ = _ ∧ World.cell? _ _ = _ ∧ Below _ _ _›.2.2.2.2.2.2.2.2).size)))
  obtain ⟨w9, hw9⟩ : ∃ x, w' = x := ⟨_, rfl⟩
  have hb9 := hX
  rw [hw9] at hb9 ⊢
  clear hw9 hX BW
  replace hst0 := hst0.keep hb9
  replace kS := kS.keep hb9
  replace hstA := hstA.keep hb9
  replace kA := kA.keep hb9
  replace hstB := hstB.keep hb9
  replace kB := kB.keep hb9
  replace hstC := hstC.keep hb9
  replace kC := kC.keep hb9
  have hY9 := hY8.trans (hb9.mono hY8.size)
  clear kS_0
  clear kS_1
  clear kS_lt
  clear kA_0
  clear kA_1
  clear kA_lt
  clear kB_0
  clear kB_1
  clear kB_lt
  clear kC_0
  clear kC_1
  clear kC_lt
  have kS_lt := kS.lt
  have kS_0 : w9.cell? ⟨w.heap.size, 0, none⟩ = some (.int .i64 cap0) := by rw [kS.cell]; rfl
  have kS_1 : w9.cell? ⟨w.heap.size, 1, none⟩ = some (.slice A0 ps0.length c0) := by rw [kS.cell]; rfl
  have kA_lt := kA.lt
  have kA_0 : w9.cell? ⟨w3.heap.size, 0, none⟩ = some (.int .i64 cap0) := by rw [kA.cell]; rfl
  have kA_1 : w9.cell? ⟨w3.heap.size, 1, none⟩ = some (.slice AA qsA.length cA) := by rw [kA.cell]; rfl
  have kB_lt := kB.lt
  have kB_0 : w9.cell? ⟨w4.heap.size, 0, none⟩ = some (.int .i64 cap0) := by rw [kB.cell]; rfl
  have kB_1 : w9.cell? ⟨w4.heap.size, 1, none⟩ = some (.slice AB ps0.length cB) := by rw [kB.cell]; rfl
  have kC_lt := kC.lt
  have kC_0 : w9.cell? ⟨w7.heap.size, 0, none⟩ = some (.int .i64 cap0) := by rw [kC.cell]; rfl
  have kC_1 : w9.cell? ⟨w7.heap.size, 1, none⟩ = some (.slice AC ps0.length cC) := by rw [kC.cell]; rfl
  go_wp2
  go_ret
  exact ⟨rfl, hY9⟩

set_option maxRecDepth 100000 in
set_option maxHeartbeats 4000000 in
theorem back_okmore (w : World) (A0 : Option Addr) (c0 : Nat) (cap0 : Int) (ps0 qsA qsC rsC : List Pg) (p jC : Int) (hst0 : StV w (.agg #[.int .i64 cap0, .slice A0 ps0.length c0]) cap0 ps0) (hm : mayP cap0 ps0 = true)
    (hA : shareL cap0 ps0 p = (0, qsA)) (hFA : freeX cap0 qsA p = (0, ps0)) (hUA : usedL cap0 qsA = usedL cap0 ps0) (hqA : qsA.length ≤ 12)
    (hC : allocL cap0 ps0 ⟨0, 0, 0, 0, 0⟩ = (jC, 0, qsC)) (hFC : freeX cap0 qsC jC = (0, rsC)) (hUC : usedL cap0 qsC = usedL cap0 ps0 + 1) (hUD : usedL cap0 rsC = usedL cap0 ps0) (hqC : qsC.length ≤ 13) :
    Calls Try.prog 9 #[.agg #[.int .i64 cap0, .slice A0 ps0.length c0], .int .i64 p] w fun e w' => e = .returned (.bool true) ∧ Below w.heap.size w w' := by
  have hlen := may_len hm
  have hmay := fun sv W h => may_any cap0 sv ps0 W h
  rw [hm] at hmay
  have hsh := fun v W hs => Share_any v cap0 ps0 p W hs (by omega)
  rw [hA] at hsh
  have hal := fun v W hs => Alloc_any v cap0 ps0 W hs (by omega)
  rw [show allocX cap0 ps0 = allocL cap0 ps0 ⟨0, 0, 0, 0, 0⟩ from by simp [allocX, hm], hC] at hal
  have hus := fun v W hs => Used_any v cap0 ps0 W hs
  have hfr := fun v W hs => Free_any v cap0 qsA p W hs (by omega)
  rw [hFA] at hfr
  have hsa := fun v1 v2 W h1 h2 => Same_any v1 v2 cap0 cap0 ps0 ps0 W h1 h2
  rw [same_refl] at hsa
  have husA := fun v W hs => Used_any v cap0 qsA W hs
  rw [hUA] at husA
  have hfrC := fun v W hs => Free_any v cap0 qsC jC W hs (by omega)
  rw [hFC] at hfrC
  have husC := fun v W hs => Used_any v cap0 qsC W hs
  rw [hUC] at husC
  have husD := fun v W hs => Used_any v cap0 rsC W hs
  rw [hUD] at husD
  have hub : 0 ≤ usedL cap0 ps0 ∧ usedL cap0 ps0 ≤ 1000 := by
    rw [usedL, if_pos hm]; have := usedN_le ps0; omega
  generalize usedL cap0 ps0 = U at hus husC husD hub husA
  have hub1 := hub.1
  have hub2 := hub.2
  clear hlen hA hC hm hFA hUA hqA hFC hUC hUD hqC hub
  go_enter Try.func9, Try.ntmps9
  have hA0 := ((Below.refl w.heap.size w).alloc (Nat.le_refl _) (.cells #[.int .i64 cap0, .slice A0 ps0.length c0] 25))
  replace hst0 := hst0.keep hA0
  have kS := Blk.new_ w 25 #[.int .i64 cap0, .slice A0 ps0.length c0] (w.heap.size) (by simp)
  have hZ0 : Below w.heap.size w _ := hA0
  go_wp2_with fail
  refine (awake_any _).mono ?_
  rintro e w1 ⟨rfl, hb1⟩
  obtain ⟨hc1, hf1⟩ := bcell hb1
  have hz1 := hb1.size
  simp at hz1
  replace hst0 := hst0.keep hb1
  replace kS := kS.keep hb1
  have hY1 := hZ0.trans (hb1.mono hZ0.size)
  have zkS_1 : w.heap.size < w1.heap.size := by omega
  have hZ1 : Below w.heap.size w w1 := hY1
  go_wp2_with fail
  refine (hmay _ _ hst0.sl).mono ?_
  rintro e w2 ⟨rfl, hb2⟩
  obtain ⟨hc2, hf2⟩ := bcell hb2
  have hz2 := hb2.size
  replace hst0 := hst0.keep hb2
  replace kS := kS.keep hb2
  have hY2 := hZ1.trans (hb2.mono hZ1.size)
  have zkS_2 : w.heap.size < w2.heap.size := by omega
  have hZ2 : Below w.heap.size w w2 := hY2
  go_wp2_with fail
  refine (hsh _ _ hst0).mono ?_
  rintro e w3 ⟨v3, rfl, hstA, hb3⟩
  obtain ⟨hc3, hf3⟩ := bcell hb3
  have hz3 := hb3.size
  replace hst0 := hst0.keep hb3
  replace kS := kS.keep hb3
  have hY3 := hZ2.trans (hb3.mono hZ2.size)
  have zkS_3 : w.heap.size < w3.heap.size := by omega
  obtain ⟨AA, cA, rfl, hstA⟩ := hstA.form
  have hA3 := ((Below.refl w3.heap.size w3).alloc (Nat.le_refl _) (.cells #[.int .i64 cap0, .slice AA qsA.length cA] 25))
  replace hst0 := hst0.keep hA3
  replace kS := kS.keep hA3
  replace hstA := hstA.keep hA3
  have kA := Blk.new_ w3 25 #[.int .i64 cap0, .slice AA qsA.length cA] (w3.heap.size) (by simp)
  have hZ3 : Below w.heap.size w _ := hY3.trans (hA3.mono hY3.size)
  go_wp2_with fail
  refine (hfr _ _ hstA).mono ?_
  rintro e w4 ⟨v4, rfl, hstB, hb4⟩
  obtain ⟨hc4, hf4⟩ := bcell hb4
  have hz4 := hb4.size
  simp at hz4
  replace hst0 := hst0.keep hb4
  replace kS := kS.keep hb4
  replace hstA := hstA.keep hb4
  replace kA := kA.keep hb4
  have hY4 := hZ3.trans (hb4.mono hZ3.size)
  have zkS_4 : w.heap.size < w4.heap.size := by omega
  have zkA_4 : w3.heap.size < w4.heap.size := by omega
  obtain ⟨AB, cB, rfl, hstB⟩ := hstB.form
  go_wp2_with fail
  have hA4 := ((Below.refl w4.heap.size w4).alloc (Nat.le_refl _) (.cells #[.int .i64 cap0, .slice AB ps0.length cB] 25))
  replace hst0 := hst0.keep hA4
  replace kS := kS.keep hA4
  replace hstA := hstA.keep hA4
  replace kA := kA.keep hA4
  replace hstB := hstB.keep hA4
  have kB := Blk.new_ w4 25 #[.int .i64 cap0, .slice AB ps0.length cB] (w4.heap.size) (by simp)
  have hZ4 : Below w.heap.size w _ := hY4.trans (hA4.mono hY4.size)
  obtain ⟨w5, hw5⟩ : ∃ x, (w4.alloc (.cells #[.int .i64 cap0, .slice AB ps0.length cB] 25)) = x := ⟨_, rfl⟩
  rw [hw5] at hst0
  rw [hw5] at kS
  rw [hw5] at hstA
  rw [hw5] at kA
  rw [hw5] at hstB
  rw [hw5] at kB
  have hY5 := hZ4
  rw [hw5] at hY5 ⊢
  have kS_lt := kS.lt
  have kS_0 : w5.cell? ⟨w.heap.size, 0, none⟩ = some (.int .i64 cap0) := by rw [kS.cell]; rfl
  have kS_1 : w5.cell? ⟨w.heap.size, 1, none⟩ = some (.slice A0 ps0.length c0) := by rw [kS.cell]; rfl
  have kA_lt := kA.lt
  have kA_0 : w5.cell? ⟨w3.heap.size, 0, none⟩ = some (.int .i64 cap0) := by rw [kA.cell]; rfl
  have kA_1 : w5.cell? ⟨w3.heap.size, 1, none⟩ = some (.slice AA qsA.length cA) := by rw [kA.cell]; rfl
  have kB_lt := kB.lt
  have kB_0 : w5.cell? ⟨w4.heap.size, 0, none⟩ = some (.int .i64 cap0) := by rw [kB.cell]; rfl
  have kB_1 : w5.cell? ⟨w4.heap.size, 1, none⟩ = some (.slice AB ps0.length cB) := by rw [kB.cell]; rfl
  have BW := (Below.refl w5.heap.size w5).drew
  go_region_held3 (fun w' => w'.cell? ⟨w.heap.size, 0, none⟩ = some (.int .i64 cap0) ∧ w'.cell? ⟨w.heap.size, 1, none⟩ = some (.slice A0 ps0.length c0) ∧ w'.cell? ⟨w3.heap.size, 0, none⟩ = some (.int .i64 cap0) ∧ w'.cell? ⟨w3.heap.size, 1, none⟩ = some (.slice AA qsA.length cA) ∧ w'.cell? ⟨w4.heap.size, 0, none⟩ = some (.int .i64 cap0) ∧ w'.cell? ⟨w4.heap.size, 1, none⟩ = some (.slice AB ps0.length cB) ∧ Below w5.heap.size w5 w')
    (first | exact ⟨(BW.cell (p := ⟨w.heap.size, 0, none⟩) kS_lt).trans kS_0, (BW.cell (p := ⟨w.heap.size, 1, none⟩) kS_lt).trans kS_1, (BW.cell (p := ⟨w3.heap.size, 0, none⟩) kA_lt).trans kA_0, (BW.cell (p := ⟨w3.heap.size, 1, none⟩) kA_lt).trans kA_1, (BW.cell (p := ⟨w4.heap.size, 0, none⟩) kB_lt).trans kB_0, (BW.cell (p := ⟨w4.heap.size, 1, none⟩) kB_lt).trans kB_1, BW⟩ | exact ⟨(hX.cell (p := ⟨w.heap.size, 0, none⟩) kS_lt).trans kS_0, (hX.cell (p := ⟨w.heap.size, 1, none⟩) kS_lt).trans kS_1, (hX.cell (p := ⟨w3.heap.size, 0, none⟩) kA_lt).trans kA_0, (hX.cell (p := ⟨w3.heap.size, 1, none⟩) kA_lt).trans kA_1, (hX.cell (p := ⟨w4.heap.size, 0, none⟩) kB_lt).trans kB_0, (hX.cell (p := ⟨w4.heap.size, 1, none⟩) kB_lt).trans kB_1, hX⟩ | go_keep)
    (first | (go_at_call 25; refine (hsa _ _ _ (hstB.keep (‹World.cell? _ _ = _ ∧ World.cell? _ _ = _ ∧ World.cell? _ _ = _ ∧ World.cell? _ _ = _ ∧ World.cell? _ _ = _ ∧ World.cell? _ _ = _ ∧ Below _ _ _›.2.2.2.2.2.2)) (hst0.keep (‹World.cell? _ _ = _ ∧ World.cell? _ _ = _ ∧ World.cell? _ _ = _ ∧ World.cell? _ _ = _ ∧ World.cell? _ _ = _ ∧ World.cell? _ _ = _ ∧ Below _ _ _›.2.2.2.2.2.2))).mono ?_; rintro e w' ⟨rfl, hb'⟩; have hX := (‹World.cell? _ _ = _ ∧ World.cell? _ _ = _ ∧ World.cell? _ _ = _ ∧ World.cell? _ _ = _ ∧ World.cell? _ _ = _ ∧ World.cell? _ _ = _ ∧ Below _ _ _›.2.2.2.2.2.2).trans (hb'.mono (‹World.cell? _ _ = _ ∧ World.cell? _ _ = _ ∧ World.cell? _ _ = _ ∧ World.cell? _ _ = _ ∧ World.cell? _ _ = _ ∧ World.cell? _ _ = _ ∧ Below _ _ _›.2.2.2.2.2.2).size)) | (go_at_call_of 13 (Value.agg #[Value.int IntKind.i64 cap0, Value.slice AA qsA.length cA]); refine (husA _ _ (hstA.keep (‹World.cell? _ _ = _ ∧ World.cell? _ _ = _ ∧ World.cell? _ _ = _ ∧ World.cell? _ _ = _ ∧ World.cell? _ _ = _ ∧ World.cell? _ _ = _ ∧ Below _ _ _›.2.2.2.2.2.2))).mono ?_; rintro e w' ⟨rfl, hb'⟩; have hX := (‹World.cell? _ _ = _ ∧ World.cell? _ _ = _ ∧ World.cell? _ _ = _ ∧ World.cell? _ _ = _ ∧ World.cell? _ _ = _ ∧ World.cell? _ _ = _ ∧ Below _ _ _›.2.2.2.2.2.2).trans (hb'.mono (‹World.cell? _ _ = _ ∧ World.cell? _ _ = _ ∧ World.cell? _ _ = _ ∧ World.cell? _ _ = _ ∧ World.cell? _ _ = _ ∧ World.cell? _ _ = _ ∧ Below _ _ _›.2.2.2.2.2.2).size)) | (go_at_call 13; refine (hus _ _ (hst0.keep (‹World.cell? _ _ = _ ∧ World.cell? _ _ = _ ∧ World.cell? _ _ = _ ∧ World.cell? _ _ = _ ∧ World.cell? _ _ = _ ∧ World.cell? _ _ = _ ∧ Below _ _ _›.2.2.2.2.2.2))).mono ?_; rintro e w' ⟨rfl, hb'⟩; have hX := (‹World.cell? _ _ = _ ∧ World.cell? _ _ = _ ∧ World.cell? _ _ = _ ∧ World.cell? _ _ = _ ∧ World.cell? _ _ = _ ∧ World.cell? _ _ = _ ∧ Below _ _ _›.2.2.2.2.2.2).trans (hb'.mono (‹World.cell? _ _ = _ ∧ World.cell? _ _ = _ ∧ World.cell? _ _ = _ ∧ World.cell? _ _ = _ ∧ World.cell? _ _ = _ ∧ World.cell? _ _ = _ ∧ Below _ _ _›.2.2.2.2.2.2).size)))
  obtain ⟨w6, hw6⟩ : ∃ x, w' = x := ⟨_, rfl⟩
  have hb6 := hX
  rw [hw6] at hb6 ⊢
  clear hw6 hX BW
  replace hst0 := hst0.keep hb6
  replace kS := kS.keep hb6
  replace hstA := hstA.keep hb6
  replace kA := kA.keep hb6
  replace hstB := hstB.keep hb6
  replace kB := kB.keep hb6
  have hY6 := hY5.trans (hb6.mono hY5.size)
  clear kS_0
  clear kS_1
  clear kS_lt
  clear kA_0
  clear kA_1
  clear kA_lt
  clear kB_0
  clear kB_1
  clear kB_lt
  have kS_lt := kS.lt
  have kS_0 : w6.cell? ⟨w.heap.size, 0, none⟩ = some (.int .i64 cap0) := by rw [kS.cell]; rfl
  have kS_1 : w6.cell? ⟨w.heap.size, 1, none⟩ = some (.slice A0 ps0.length c0) := by rw [kS.cell]; rfl
  have kA_lt := kA.lt
  have kA_0 : w6.cell? ⟨w3.heap.size, 0, none⟩ = some (.int .i64 cap0) := by rw [kA.cell]; rfl
  have kA_1 : w6.cell? ⟨w3.heap.size, 1, none⟩ = some (.slice AA qsA.length cA) := by rw [kA.cell]; rfl
  have kB_lt := kB.lt
  have kB_0 : w6.cell? ⟨w4.heap.size, 0, none⟩ = some (.int .i64 cap0) := by rw [kB.cell]; rfl
  have kB_1 : w6.cell? ⟨w4.heap.size, 1, none⟩ = some (.slice AB ps0.length cB) := by rw [kB.cell]; rfl
  have hZ6 : Below w.heap.size w w6 := hY6
  go_wp2_with fail
  refine (hal _ _ hst0).mono ?_
  rintro e w7 ⟨v7, rfl, hstC, hb7, -⟩
  obtain ⟨hc7, hf7⟩ := bcell hb7
  have hz7 := hb7.size
  replace hst0 := hst0.keep hb7
  replace kS := kS.keep hb7
  replace hstA := hstA.keep hb7
  replace kA := kA.keep hb7
  replace hstB := hstB.keep hb7
  replace kB := kB.keep hb7
  have hY7 := hZ6.trans (hb7.mono hZ6.size)
  have zkS_7 : w.heap.size < w7.heap.size := by omega
  have zkA_7 : w3.heap.size < w7.heap.size := by omega
  have zkB_7 : w4.heap.size < w7.heap.size := by omega
  obtain ⟨AC, cC, rfl, hstC⟩ := hstC.form
  have hA7 := ((Below.refl w7.heap.size w7).alloc (Nat.le_refl _) (.cells #[.int .i64 cap0, .slice AC qsC.length cC] 25))
  replace hst0 := hst0.keep hA7
  replace kS := kS.keep hA7
  replace hstA := hstA.keep hA7
  replace kA := kA.keep hA7
  replace hstB := hstB.keep hA7
  replace kB := kB.keep hA7
  replace hstC := hstC.keep hA7
  have kC := Blk.new_ w7 25 #[.int .i64 cap0, .slice AC qsC.length cC] (w7.heap.size) (by simp)
  have hZ7 : Below w.heap.size w _ := hY7.trans (hA7.mono hY7.size)
  go_wp2_with fail
  refine (hfrC _ _ hstC).mono ?_
  rintro e w8 ⟨v8, rfl, hstD, hb8⟩
  obtain ⟨hc8, hf8⟩ := bcell hb8
  have hz8 := hb8.size
  simp at hz8
  replace hst0 := hst0.keep hb8
  replace kS := kS.keep hb8
  replace hstA := hstA.keep hb8
  replace kA := kA.keep hb8
  replace hstB := hstB.keep hb8
  replace kB := kB.keep hb8
  replace hstC := hstC.keep hb8
  replace kC := kC.keep hb8
  have hY8 := hZ7.trans (hb8.mono hZ7.size)
  have zkS_8 : w.heap.size < w8.heap.size := by omega
  have zkA_8 : w3.heap.size < w8.heap.size := by omega
  have zkB_8 : w4.heap.size < w8.heap.size := by omega
  have zkC_8 : w7.heap.size < w8.heap.size := by omega
  obtain ⟨AD, cD, rfl, hstD⟩ := hstD.form
  go_wp2_with fail
  have hA8 := ((Below.refl w8.heap.size w8).alloc (Nat.le_refl _) (.cells #[.int .i64 cap0, .slice AD rsC.length cD] 25))
  replace hst0 := hst0.keep hA8
  replace kS := kS.keep hA8
  replace hstA := hstA.keep hA8
  replace kA := kA.keep hA8
  replace hstB := hstB.keep hA8
  replace kB := kB.keep hA8
  replace hstC := hstC.keep hA8
  replace kC := kC.keep hA8
  replace hstD := hstD.keep hA8
  have kD := Blk.new_ w8 25 #[.int .i64 cap0, .slice AD rsC.length cD] (w8.heap.size) (by simp)
  have hZ8 : Below w.heap.size w _ := hY8.trans (hA8.mono hY8.size)
  obtain ⟨w9, hw9⟩ : ∃ x, (w8.alloc (.cells #[.int .i64 cap0, .slice AD rsC.length cD] 25)) = x := ⟨_, rfl⟩
  rw [hw9] at hst0
  rw [hw9] at kS
  rw [hw9] at hstA
  rw [hw9] at kA
  rw [hw9] at hstB
  rw [hw9] at kB
  rw [hw9] at hstC
  rw [hw9] at kC
  rw [hw9] at hstD
  rw [hw9] at kD
  have hY9 := hZ8
  rw [hw9] at hY9 ⊢
  have kS_lt := kS.lt
  have kS_0 : w9.cell? ⟨w.heap.size, 0, none⟩ = some (.int .i64 cap0) := by rw [kS.cell]; rfl
  have kS_1 : w9.cell? ⟨w.heap.size, 1, none⟩ = some (.slice A0 ps0.length c0) := by rw [kS.cell]; rfl
  have kA_lt := kA.lt
  have kA_0 : w9.cell? ⟨w3.heap.size, 0, none⟩ = some (.int .i64 cap0) := by rw [kA.cell]; rfl
  have kA_1 : w9.cell? ⟨w3.heap.size, 1, none⟩ = some (.slice AA qsA.length cA) := by rw [kA.cell]; rfl
  have kB_lt := kB.lt
  have kB_0 : w9.cell? ⟨w4.heap.size, 0, none⟩ = some (.int .i64 cap0) := by rw [kB.cell]; rfl
  have kB_1 : w9.cell? ⟨w4.heap.size, 1, none⟩ = some (.slice AB ps0.length cB) := by rw [kB.cell]; rfl
  have kC_lt := kC.lt
  have kC_0 : w9.cell? ⟨w7.heap.size, 0, none⟩ = some (.int .i64 cap0) := by rw [kC.cell]; rfl
  have kC_1 : w9.cell? ⟨w7.heap.size, 1, none⟩ = some (.slice AC qsC.length cC) := by rw [kC.cell]; rfl
  have kD_lt := kD.lt
  have kD_0 : w9.cell? ⟨w8.heap.size, 0, none⟩ = some (.int .i64 cap0) := by rw [kD.cell]; rfl
  have kD_1 : w9.cell? ⟨w8.heap.size, 1, none⟩ = some (.slice AD rsC.length cD) := by rw [kD.cell]; rfl
  have hwr : IntKind.i64.wrap (U + 1) = U + 1 := IntWalk.i64_in _ (by omega)
  have BW := (Below.refl w9.heap.size w9).drew
  go_region_held3 (fun w' => w'.cell? ⟨w.heap.size, 0, none⟩ = some (.int .i64 cap0) ∧ w'.cell? ⟨w.heap.size, 1, none⟩ = some (.slice A0 ps0.length c0) ∧ w'.cell? ⟨w3.heap.size, 0, none⟩ = some (.int .i64 cap0) ∧ w'.cell? ⟨w3.heap.size, 1, none⟩ = some (.slice AA qsA.length cA) ∧ w'.cell? ⟨w4.heap.size, 0, none⟩ = some (.int .i64 cap0) ∧ w'.cell? ⟨w4.heap.size, 1, none⟩ = some (.slice AB ps0.length cB) ∧ w'.cell? ⟨w7.heap.size, 0, none⟩ = some (.int .i64 cap0) ∧ w'.cell? ⟨w7.heap.size, 1, none⟩ = some (.slice AC qsC.length cC) ∧ w'.cell? ⟨w8.heap.size, 0, none⟩ = some (.int .i64 cap0) ∧ w'.cell? ⟨w8.heap.size, 1, none⟩ = some (.slice AD rsC.length cD) ∧ Below w9.heap.size w9 w')
    (first | exact ⟨(BW.cell (p := ⟨w.heap.size, 0, none⟩) kS_lt).trans kS_0, (BW.cell (p := ⟨w.heap.size, 1, none⟩) kS_lt).trans kS_1, (BW.cell (p := ⟨w3.heap.size, 0, none⟩) kA_lt).trans kA_0, (BW.cell (p := ⟨w3.heap.size, 1, none⟩) kA_lt).trans kA_1, (BW.cell (p := ⟨w4.heap.size, 0, none⟩) kB_lt).trans kB_0, (BW.cell (p := ⟨w4.heap.size, 1, none⟩) kB_lt).trans kB_1, (BW.cell (p := ⟨w7.heap.size, 0, none⟩) kC_lt).trans kC_0, (BW.cell (p := ⟨w7.heap.size, 1, none⟩) kC_lt).trans kC_1, (BW.cell (p := ⟨w8.heap.size, 0, none⟩) kD_lt).trans kD_0, (BW.cell (p := ⟨w8.heap.size, 1, none⟩) kD_lt).trans kD_1, BW⟩ | exact ⟨(hX.cell (p := ⟨w.heap.size, 0, none⟩) kS_lt).trans kS_0, (hX.cell (p := ⟨w.heap.size, 1, none⟩) kS_lt).trans kS_1, (hX.cell (p := ⟨w3.heap.size, 0, none⟩) kA_lt).trans kA_0, (hX.cell (p := ⟨w3.heap.size, 1, none⟩) kA_lt).trans kA_1, (hX.cell (p := ⟨w4.heap.size, 0, none⟩) kB_lt).trans kB_0, (hX.cell (p := ⟨w4.heap.size, 1, none⟩) kB_lt).trans kB_1, (hX.cell (p := ⟨w7.heap.size, 0, none⟩) kC_lt).trans kC_0, (hX.cell (p := ⟨w7.heap.size, 1, none⟩) kC_lt).trans kC_1, (hX.cell (p := ⟨w8.heap.size, 0, none⟩) kD_lt).trans kD_0, (hX.cell (p := ⟨w8.heap.size, 1, none⟩) kD_lt).trans kD_1, hX⟩ | go_keep)
    (first | (go_at_call_of 13 (Value.agg #[Value.int IntKind.i64 cap0, Value.slice AC qsC.length cC]); refine (husC _ _ (hstC.keep (‹World.cell? _ _ = _ ∧ World.cell? _ _ = _ ∧ World.cell? _ _ = _ ∧ World.cell? _ _ = _ ∧ World.cell? _ _ = _ ∧ World.cell? _ _ = _ ∧ World.cell? _ _ = _ ∧ World.cell? _ _ = _ ∧ World.cell? _ _ = _ ∧ World.cell? _ _ = _ ∧ Below _ _ _›.2.2.2.2.2.2.2.2.2.2))).mono ?_; rintro e w' ⟨rfl, hb'⟩; have hX := (‹World.cell? _ _ = _ ∧ World.cell? _ _ = _ ∧ World.cell? _ _ = _ ∧ World.cell? _ _ = _ ∧ World.cell? _ _ = _ ∧ World.cell? _ _ = _ ∧ World.cell? _ _ = _ ∧ World.cell? _ _ = _ ∧ World.cell? _ _ = _ ∧ World.cell? _ _ = _ ∧ Below _ _ _›.2.2.2.2.2.2.2.2.2.2).trans (hb'.mono (‹World.cell? _ _ = _ ∧ World.cell? _ _ = _ ∧ World.cell? _ _ = _ ∧ World.cell? _ _ = _ ∧ World.cell? _ _ = _ ∧ World.cell? _ _ = _ ∧ World.cell? _ _ = _ ∧ World.cell? _ _ = _ ∧ World.cell? _ _ = _ ∧ World.cell? _ _ = _ ∧ Below _ _ _›.2.2.2.2.2.2.2.2.2.2).size)) | (go_at_call_of 13 (Value.agg #[Value.int IntKind.i64 cap0, Value.slice AD rsC.length cD]); refine (husD _ _ (hstD.keep (‹World.cell? _ _ = _ ∧ World.cell? _ _ = _ ∧ World.cell? _ _ = _ ∧ World.cell? _ _ = _ ∧ World.cell? _ _ = _ ∧ World.cell? _ _ = _ ∧ World.cell? _ _ = _ ∧ World.cell? _ _ = _ ∧ World.cell? _ _ = _ ∧ World.cell? _ _ = _ ∧ Below _ _ _›.2.2.2.2.2.2.2.2.2.2))).mono ?_; rintro e w' ⟨rfl, hb'⟩; have hX := (‹World.cell? _ _ = _ ∧ World.cell? _ _ = _ ∧ World.cell? _ _ = _ ∧ World.cell? _ _ = _ ∧ World.cell? _ _ = _ ∧ World.cell? _ _ = _ ∧ World.cell? _ _ = _ ∧ World.cell? _ _ = _ ∧ World.cell? _ _ = _ ∧ World.cell? _ _ = _ ∧ Below _ _ _›.2.2.2.2.2.2.2.2.2.2).trans (hb'.mono (‹World.cell? _ _ = _ ∧ World.cell? _ _ = _ ∧ World.cell? _ _ = _ ∧ World.cell? _ _ = _ ∧ World.cell? _ _ = _ ∧ World.cell? _ _ = _ ∧ World.cell? _ _ = _ ∧ World.cell? _ _ = _ ∧ World.cell? _ _ = _ ∧ World.cell? _ _ = _ ∧ Below _ _ _›.2.2.2.2.2.2.2.2.2.2).size)) | (go_at_call 13; refine (hus _ _ (hst0.keep (‹World.cell? _ _ = _ ∧ World.cell? _ _ = _ ∧ World.cell? _ _ = _ ∧ World.cell? _ _ = _ ∧ World.cell? _ _ = _ ∧ World.cell? _ _ = _ ∧ World.cell? _ _ = _ ∧ World.cell? _ _ = _ ∧ World.cell? _ _ = _ ∧ World.cell? _ _ = _ ∧ Below _ _ _›.2.2.2.2.2.2.2.2.2.2))).mono ?_; rintro e w' ⟨rfl, hb'⟩; have hX := (‹World.cell? _ _ = _ ∧ World.cell? _ _ = _ ∧ World.cell? _ _ = _ ∧ World.cell? _ _ = _ ∧ World.cell? _ _ = _ ∧ World.cell? _ _ = _ ∧ World.cell? _ _ = _ ∧ World.cell? _ _ = _ ∧ World.cell? _ _ = _ ∧ World.cell? _ _ = _ ∧ Below _ _ _›.2.2.2.2.2.2.2.2.2.2).trans (hb'.mono (‹World.cell? _ _ = _ ∧ World.cell? _ _ = _ ∧ World.cell? _ _ = _ ∧ World.cell? _ _ = _ ∧ World.cell? _ _ = _ ∧ World.cell? _ _ = _ ∧ World.cell? _ _ = _ ∧ World.cell? _ _ = _ ∧ World.cell? _ _ = _ ∧ World.cell? _ _ = _ ∧ Below _ _ _›.2.2.2.2.2.2.2.2.2.2).size)))
  obtain ⟨w10, hw10⟩ : ∃ x, w' = x := ⟨_, rfl⟩
  have hb10 := hX
  rw [hw10] at hb10 ⊢
  clear hw10 hX BW
  replace hst0 := hst0.keep hb10
  replace kS := kS.keep hb10
  replace hstA := hstA.keep hb10
  replace kA := kA.keep hb10
  replace hstB := hstB.keep hb10
  replace kB := kB.keep hb10
  replace hstC := hstC.keep hb10
  replace kC := kC.keep hb10
  replace hstD := hstD.keep hb10
  replace kD := kD.keep hb10
  have hY10 := hY9.trans (hb10.mono hY9.size)
  clear kS_0
  clear kS_1
  clear kS_lt
  clear kA_0
  clear kA_1
  clear kA_lt
  clear kB_0
  clear kB_1
  clear kB_lt
  clear kC_0
  clear kC_1
  clear kC_lt
  clear kD_0
  clear kD_1
  clear kD_lt
  have kS_lt := kS.lt
  have kS_0 : w10.cell? ⟨w.heap.size, 0, none⟩ = some (.int .i64 cap0) := by rw [kS.cell]; rfl
  have kS_1 : w10.cell? ⟨w.heap.size, 1, none⟩ = some (.slice A0 ps0.length c0) := by rw [kS.cell]; rfl
  have kA_lt := kA.lt
  have kA_0 : w10.cell? ⟨w3.heap.size, 0, none⟩ = some (.int .i64 cap0) := by rw [kA.cell]; rfl
  have kA_1 : w10.cell? ⟨w3.heap.size, 1, none⟩ = some (.slice AA qsA.length cA) := by rw [kA.cell]; rfl
  have kB_lt := kB.lt
  have kB_0 : w10.cell? ⟨w4.heap.size, 0, none⟩ = some (.int .i64 cap0) := by rw [kB.cell]; rfl
  have kB_1 : w10.cell? ⟨w4.heap.size, 1, none⟩ = some (.slice AB ps0.length cB) := by rw [kB.cell]; rfl
  have kC_lt := kC.lt
  have kC_0 : w10.cell? ⟨w7.heap.size, 0, none⟩ = some (.int .i64 cap0) := by rw [kC.cell]; rfl
  have kC_1 : w10.cell? ⟨w7.heap.size, 1, none⟩ = some (.slice AC qsC.length cC) := by rw [kC.cell]; rfl
  have kD_lt := kD.lt
  have kD_0 : w10.cell? ⟨w8.heap.size, 0, none⟩ = some (.int .i64 cap0) := by rw [kD.cell]; rfl
  have kD_1 : w10.cell? ⟨w8.heap.size, 1, none⟩ = some (.slice AD rsC.length cD) := by rw [kD.cell]; rfl
  clear hwr
  go_wp2
  go_ret
  exact ⟨rfl, hY10⟩

theorem pageBack_walk (w : World) (v0 : Value) (cap0 : Int) (ps0 : List Pg) (hst0 : StV w v0 cap0 ps0) (_wc0 : okI cap0) (_hok0 : ∀ q ∈ ps0, pgOk q) (p : Int) (_w1 : (Lit.int .i64 p).wf = true) :
    Calls Try.prog 9 #[v0, .int .i64 p] w fun e w' => e = .returned (.bool true) ∧ Below w.heap.size w w' := by
  obtain ⟨A0, c0, rfl, hst0⟩ := hst0.form
  cases hm : mayP cap0 ps0 with
  | false =>
    have hmay := fun W (hb : Below w.heap.size w W) => may_any cap0 _ ps0 W (hst0.below hb).sl
    rw [hm] at hmay
    clear hm hst0
    generalize ps0.length = n at *
    go_enter Try.func9, Try.ntmps9
    go_wp2_with fail
    refine (awake_any _).mono ?_
    rintro e w1 ⟨rfl, hb1⟩
    obtain ⟨hc1, -⟩ := bcell hb1
    have hB1 : Below w.heap.size w w1 := ((Below.refl _ w).alloc (Nat.le_refl _) _).trans (hb1.mono (by simp))
    go_wp2_with fail
    refine (hmay _ hB1).mono ?_
    rintro e w2 ⟨rfl, hb2⟩
    go_wp2
    go_ret
    exact ⟨rfl, hB1.trans (hb2.mono hB1.size)⟩
  | true =>
    rcases hA : shareL cap0 ps0 p with ⟨e1, qsA⟩
    rcases hC : allocL cap0 ps0 ⟨0, 0, 0, 0, 0⟩ with ⟨jC, e2, qsC⟩
    have hqC : qsC.length ≤ 13 := by
      have := may_len (allocL_may hm ⟨0, 0, 0, 0, 0⟩)
      rw [hC] at this
      simp only at this
      omega
    cases he1 : (e1 == 0) with
    | false =>
      cases he2 : (e2 == 0) with
      | false =>
        have h2 := allocL_err (cap := cap0) (ps := ps0) (x := ⟨0, 0, 0, 0, 0⟩) (by rw [hC]; simpa using he2)
        exact back_nofull w A0 c0 cap0 ps0 qsA p e1 hst0 hm hA he1 h2
      | true =>
        obtain ⟨j, qs, rs, hC2, _, hF, _, hU1, hU2⟩ := alloc_back hm (by rw [hC]; simpa using he2)
        have : qs.length ≤ 13 := by rw [hC2] at hC; injection hC with _ hC; injection hC with _ hC; rw [hC]; exact hqC
        exact back_nomore w A0 c0 cap0 ps0 qsA qs rs p e1 j hst0 hm hA he1 hC2 hF hU1 hU2 this
    | true =>
      obtain ⟨qs1, hA2, _, hFA, hUA, hq1⟩ := share_back (p := p) hm (by rw [hA]; simpa using he1)
      cases he2 : (e2 == 0) with
      | false =>
        have h2 := allocL_err (cap := cap0) (ps := ps0) (x := ⟨0, 0, 0, 0, 0⟩) (by rw [hC]; simpa using he2)
        exact back_okfull w A0 c0 cap0 ps0 qs1 p hst0 hm hA2 hFA hUA hq1 h2
      | true =>
        obtain ⟨j, qs, rs, hC2, _, hF, _, hU1, hU2⟩ := alloc_back hm (by rw [hC]; simpa using he2)
        have : qs.length ≤ 13 := by rw [hC2] at hC; injection hC with _ hC; injection hC with _ hC; rw [hC]; exact hqC
        exact back_okmore w A0 c0 cap0 ps0 qs1 qs rs p j hst0 hm hA2 hFA hUA hq1 hC2 hF hU1 hU2 this
end Go.Proofs.Ytelfkopoppfaaaa
