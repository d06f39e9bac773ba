/- The walk of PageStays, part 3. -/
import Derived.Test.YtelfkopoppfaaaaPgLawBack
namespace Go.Proofs.Ytelfkopoppfaaaa
open Go Go.RowKit
set_option linter.unusedVariables false

set_option maxRecDepth 100000 in
set_option maxHeartbeats 4000000 in
theorem stays_ooox (w : World) (A0 : Option Addr) (c0 : Nat) (cap0 : Int) (ps0 qsA qsB qsC qsD : List Pg) (p i v atA atD eA eB eC eD : Int) (hst0 : StV w (.agg #[.int .i64 cap0, .slice A0 ps0.length c0]) cap0 ps0) (hm : mayP cap0 ps0 = true)
    (hA : allocX cap0 ps0 = (atA, eA, qsA)) (hB : shareL cap0 ps0 p = (eB, qsB)) (hC : freeX cap0 ps0 p = (eC, qsC)) (hD : writeL cap0 ps0 p i v = (atD, eD, qsD))
    (hmA : mayP cap0 qsA = true) (hmB : mayP cap0 qsB = true) (hmC : mayP cap0 qsC = true) (hmD : mayP cap0 qsD = true)
    (hsA : (eA != 0) = true → qsA = ps0) (hsB : (eB != 0) = true → qsB = ps0) (hsC : (eC != 0) = true → qsC = ps0) (hsD : (eD != 0) = true → qsD = ps0)
    (kA : (eA != 0) = false) (kB : (eB != 0) = false) (kC : (eC != 0) = false) (kD : (eD != 0) = true) :
    Calls Try.prog 8 #[.agg #[.int .i64 cap0, .slice A0 ps0.length c0], .int .i64 p, .int .i64 i, .int .i64 v] w fun e w' => e = .returned (.bool true) ∧ Below w.heap.size w w' := by
  have hlen := may_len hm
  have hmay := fun sv W h => may_any cap0 sv ps0 W h
  rw [hm] at hmay
  have cA := fun v W hs => Alloc_any v cap0 ps0 W hs (by omega)
  rw [hA] at cA
  have cB := fun v W hs => Share_any v cap0 ps0 p W hs (by omega)
  rw [hB] at cB
  have cC := fun v W hs => Free_any v cap0 ps0 p W hs (by omega)
  rw [hC] at cC
  have cD := fun u W hs => Write_any u cap0 ps0 p i v W hs (by omega)
  rw [hD] at cD
  have mA := fun sv W h => may_any cap0 sv qsA W h
  rw [hmA] at mA
  have mB := fun sv W h => may_any cap0 sv qsB W h
  rw [hmB] at mB
  have mC := fun sv W h => may_any cap0 sv qsC W h
  rw [hmC] at mC
  have mD := fun sv W h => may_any cap0 sv qsD W h
  rw [hmD] at mD
  have sD := fun v1 v2 W h1 h2 => Same_any v1 v2 cap0 cap0 qsD ps0 W h1 h2
  rw [show sameP cap0 qsD cap0 ps0 = true from by rw [hsD kD]; exact same_refl _ _] at sD
  clear hlen hA hB hC hD hm hmA hmB hmC hmD hsA hsB hsC hsD
  go_enter Try.func8, Try.ntmps8
  have hA0 := ((Below.refl w.heap.size w).alloc (Nat.le_refl _) (.cells #[.int .i64 cap0, .slice A0 ps0.length c0] 25))
  replace hst0 := hst0.keep hA0
  have kS := Blk.new_ w 25 #[.int .i64 cap0, .slice A0 ps0.length c0] (w.heap.size) (by simp)
  have hZ0 : Below w.heap.size w _ := hA0
  go_wp2_with fail
  refine (awake_any _).mono ?_
  rintro e w1 ⟨rfl, hb1⟩
  obtain ⟨hc1, hf1⟩ := bcell hb1
  have hz1 := hb1.size
  simp at hz1
  replace hst0 := hst0.keep hb1
  replace kS := kS.keep hb1
  have hY1 := hZ0.trans (hb1.mono hZ0.size)
  have zkS_1 : w.heap.size < w1.heap.size := by omega
  have hZ1 : Below w.heap.size w w1 := hY1
  go_wp2_with fail
  refine (hmay _ _ hst0.sl).mono ?_
  rintro e w2 ⟨rfl, hb2⟩
  obtain ⟨hc2, hf2⟩ := bcell hb2
  have hz2 := hb2.size
  replace hst0 := hst0.keep hb2
  replace kS := kS.keep hb2
  have hY2 := hZ1.trans (hb2.mono hZ1.size)
  have zkS_2 : w.heap.size < w2.heap.size := by omega
  have hZ2 : Below w.heap.size w w2 := hY2
  go_wp2_with fail
  refine (cA _ _ hst0).mono ?_
  rintro e w3 ⟨v3, rfl, hstA, hb3, -⟩
  obtain ⟨hc3, hf3⟩ := bcell hb3
  have hz3 := hb3.size
  replace hst0 := hst0.keep hb3
  replace kS := kS.keep hb3
  have hY3 := hZ2.trans (hb3.mono hZ2.size)
  have zkS_3 : w.heap.size < w3.heap.size := by omega
  obtain ⟨AA, dA, rfl, hstA⟩ := hstA.form
  have hA3 := ((Below.refl w3.heap.size w3).alloc (Nat.le_refl _) (.cells #[.int .i64 cap0, .slice AA qsA.length dA] 25))
  replace hst0 := hst0.keep hA3
  replace kS := kS.keep hA3
  replace hstA := hstA.keep hA3
  have kAx := Blk.new_ w3 25 #[.int .i64 cap0, .slice AA qsA.length dA] (w3.heap.size) (by simp)
  have hZ3 : Below w.heap.size w _ := hY3.trans (hA3.mono hY3.size)
  go_wp2_with fail
  refine (cB _ _ hst0).mono ?_
  rintro e w4 ⟨v4, rfl, hstB, hb4⟩
  obtain ⟨hc4, hf4⟩ := bcell hb4
  have hz4 := hb4.size
  simp at hz4
  replace hst0 := hst0.keep hb4
  replace kS := kS.keep hb4
  replace hstA := hstA.keep hb4
  replace kAx := kAx.keep hb4
  have hY4 := hZ3.trans (hb4.mono hZ3.size)
  have zkS_4 : w.heap.size < w4.heap.size := by omega
  have zkAx_4 : w3.heap.size < w4.heap.size := by omega
  obtain ⟨AB, dB, rfl, hstB⟩ := hstB.form
  have hA4 := ((Below.refl w4.heap.size w4).alloc (Nat.le_refl _) (.cells #[.int .i64 cap0, .slice AB qsB.length dB] 25))
  replace hst0 := hst0.keep hA4
  replace kS := kS.keep hA4
  replace hstA := hstA.keep hA4
  replace kAx := kAx.keep hA4
  replace hstB := hstB.keep hA4
  have kBx := Blk.new_ w4 25 #[.int .i64 cap0, .slice AB qsB.length dB] (w4.heap.size) (by simp)
  have hZ4 : Below w.heap.size w _ := hY4.trans (hA4.mono hY4.size)
  go_wp2_with fail
  refine (cC _ _ hst0).mono ?_
  rintro e w5 ⟨v5, rfl, hstC, hb5⟩
  obtain ⟨hc5, hf5⟩ := bcell hb5
  have hz5 := hb5.size
  simp at hz5
  replace hst0 := hst0.keep hb5
  replace kS := kS.keep hb5
  replace hstA := hstA.keep hb5
  replace kAx := kAx.keep hb5
  replace hstB := hstB.keep hb5
  replace kBx := kBx.keep hb5
  have hY5 := hZ4.trans (hb5.mono hZ4.size)
  have zkS_5 : w.heap.size < w5.heap.size := by omega
  have zkAx_5 : w3.heap.size < w5.heap.size := by omega
  have zkBx_5 : w4.heap.size < w5.heap.size := by omega
  obtain ⟨AC, dC, rfl, hstC⟩ := hstC.form
  have hA5 := ((Below.refl w5.heap.size w5).alloc (Nat.le_refl _) (.cells #[.int .i64 cap0, .slice AC qsC.length dC] 25))
  replace hst0 := hst0.keep hA5
  replace kS := kS.keep hA5
  replace hstA := hstA.keep hA5
  replace kAx := kAx.keep hA5
  replace hstB := hstB.keep hA5
  replace kBx := kBx.keep hA5
  replace hstC := hstC.keep hA5
  have kCx := Blk.new_ w5 25 #[.int .i64 cap0, .slice AC qsC.length dC] (w5.heap.size) (by simp)
  have hZ5 : Below w.heap.size w _ := hY5.trans (hA5.mono hY5.size)
  go_wp2_with fail
  refine (cD _ _ hst0).mono ?_
  rintro e w6 ⟨v6, rfl, hstD, hb6⟩
  obtain ⟨hc6, hf6⟩ := bcell hb6
  have hz6 := hb6.size
  simp at hz6
  replace hst0 := hst0.keep hb6
  replace kS := kS.keep hb6
  replace hstA := hstA.keep hb6
  replace kAx := kAx.keep hb6
  replace hstB := hstB.keep hb6
  replace kBx := kBx.keep hb6
  replace hstC := hstC.keep hb6
  replace kCx := kCx.keep hb6
  have hY6 := hZ5.trans (hb6.mono hZ5.size)
  have zkS_6 : w.heap.size < w6.heap.size := by omega
  have zkAx_6 : w3.heap.size < w6.heap.size := by omega
  have zkBx_6 : w4.heap.size < w6.heap.size := by omega
  have zkCx_6 : w5.heap.size < w6.heap.size := by omega
  obtain ⟨AD, dD, rfl, hstD⟩ := hstD.form
  have hA6 := ((Below.refl w6.heap.size w6).alloc (Nat.le_refl _) (.cells #[.int .i64 cap0, .slice AD qsD.length dD] 25))
  replace hst0 := hst0.keep hA6
  replace kS := kS.keep hA6
  replace hstA := hstA.keep hA6
  replace kAx := kAx.keep hA6
  replace hstB := hstB.keep hA6
  replace kBx := kBx.keep hA6
  replace hstC := hstC.keep hA6
  replace kCx := kCx.keep hA6
  replace hstD := hstD.keep hA6
  have kDx := Blk.new_ w6 25 #[.int .i64 cap0, .slice AD qsD.length dD] (w6.heap.size) (by simp)
  have hZ6 : Below w.heap.size w _ := hY6.trans (hA6.mono hY6.size)
  go_wp2_with fail
  refine (sD _ _ _ hstD hst0).mono ?_
  rintro e w7 ⟨rfl, hb7⟩
  obtain ⟨hc7, hf7⟩ := bcell hb7
  have hz7 := hb7.size
  simp at hz7
  replace hst0 := hst0.keep hb7
  replace kS := kS.keep hb7
  replace hstA := hstA.keep hb7
  replace kAx := kAx.keep hb7
  replace hstB := hstB.keep hb7
  replace kBx := kBx.keep hb7
  replace hstC := hstC.keep hb7
  replace kCx := kCx.keep hb7
  replace hstD := hstD.keep hb7
  replace kDx := kDx.keep hb7
  have hY7 := hZ6.trans (hb7.mono hZ6.size)
  have zkS_7 : w.heap.size < w7.heap.size := by omega
  have zkAx_7 : w3.heap.size < w7.heap.size := by omega
  have zkBx_7 : w4.heap.size < w7.heap.size := by omega
  have zkCx_7 : w5.heap.size < w7.heap.size := by omega
  have zkDx_7 : w6.heap.size < w7.heap.size := by omega
  have hZ7 : Below w.heap.size w w7 := hY7
  go_wp2_with fail
  refine (mA _ _ hstA.sl).mono ?_
  rintro e w8 ⟨rfl, hb8⟩
  obtain ⟨hc8, hf8⟩ := bcell hb8
  have hz8 := hb8.size
  replace hst0 := hst0.keep hb8
  replace kS := kS.keep hb8
  replace hstA := hstA.keep hb8
  replace kAx := kAx.keep hb8
  replace hstB := hstB.keep hb8
  replace kBx := kBx.keep hb8
  replace hstC := hstC.keep hb8
  replace kCx := kCx.keep hb8
  replace hstD := hstD.keep hb8
  replace kDx := kDx.keep hb8
  have hY8 := hZ7.trans (hb8.mono hZ7.size)
  have zkS_8 : w.heap.size < w8.heap.size := by omega
  have zkAx_8 : w3.heap.size < w8.heap.size := by omega
  have zkBx_8 : w4.heap.size < w8.heap.size := by omega
  have zkCx_8 : w5.heap.size < w8.heap.size := by omega
  have zkDx_8 : w6.heap.size < w8.heap.size := by omega
  have hZ8 : Below w.heap.size w w8 := hY8
  go_wp2_with fail
  refine (mB _ _ hstB.sl).mono ?_
  rintro e w9 ⟨rfl, hb9⟩
  obtain ⟨hc9, hf9⟩ := bcell hb9
  have hz9 := hb9.size
  replace hst0 := hst0.keep hb9
  replace kS := kS.keep hb9
  replace hstA := hstA.keep hb9
  replace kAx := kAx.keep hb9
  replace hstB := hstB.keep hb9
  replace kBx := kBx.keep hb9
  replace hstC := hstC.keep hb9
  replace kCx := kCx.keep hb9
  replace hstD := hstD.keep hb9
  replace kDx := kDx.keep hb9
  have hY9 := hZ8.trans (hb9.mono hZ8.size)
  have zkS_9 : w.heap.size < w9.heap.size := by omega
  have zkAx_9 : w3.heap.size < w9.heap.size := by omega
  have zkBx_9 : w4.heap.size < w9.heap.size := by omega
  have zkCx_9 : w5.heap.size < w9.heap.size := by omega
  have zkDx_9 : w6.heap.size < w9.heap.size := by omega
  have hZ9 : Below w.heap.size w w9 := hY9
  go_wp2_with fail
  refine (mC _ _ hstC.sl).mono ?_
  rintro e w10 ⟨rfl, hb10⟩
  obtain ⟨hc10, hf10⟩ := bcell hb10
  have hz10 := hb10.size
  replace hst0 := hst0.keep hb10
  replace kS := kS.keep hb10
  replace hstA := hstA.keep hb10
  replace kAx := kAx.keep hb10
  replace hstB := hstB.keep hb10
  replace kBx := kBx.keep hb10
  replace hstC := hstC.keep hb10
  replace kCx := kCx.keep hb10
  replace hstD := hstD.keep hb10
  replace kDx := kDx.keep hb10
  have hY10 := hZ9.trans (hb10.mono hZ9.size)
  have zkS_10 : w.heap.size < w10.heap.size := by omega
  have zkAx_10 : w3.heap.size < w10.heap.size := by omega
  have zkBx_10 : w4.heap.size < w10.heap.size := by omega
  have zkCx_10 : w5.heap.size < w10.heap.size := by omega
  have zkDx_10 : w6.heap.size < w10.heap.size := by omega
  have hZ10 : Below w.heap.size w w10 := hY10
  go_wp2_with fail
  refine (mD _ _ hstD.sl).mono ?_
  rintro e w11 ⟨rfl, hb11⟩
  obtain ⟨hc11, hf11⟩ := bcell hb11
  have hz11 := hb11.size
  replace hst0 := hst0.keep hb11
  replace kS := kS.keep hb11
  replace hstA := hstA.keep hb11
  replace kAx := kAx.keep hb11
  replace hstB := hstB.keep hb11
  replace kBx := kBx.keep hb11
  replace hstC := hstC.keep hb11
  replace kCx := kCx.keep hb11
  replace hstD := hstD.keep hb11
  replace kDx := kDx.keep hb11
  have hY11 := hZ10.trans (hb11.mono hZ10.size)
  have zkS_11 : w.heap.size < w11.heap.size := by omega
  have zkAx_11 : w3.heap.size < w11.heap.size := by omega
  have zkBx_11 : w4.heap.size < w11.heap.size := by omega
  have zkCx_11 : w5.heap.size < w11.heap.size := by omega
  have zkDx_11 : w6.heap.size < w11.heap.size := by omega
  go_wp2
  go_ret
  exact ⟨rfl, hY11⟩

set_option maxRecDepth 100000 in
set_option maxHeartbeats 4000000 in
theorem stays_xoox (w : World) (A0 : Option Addr) (c0 : Nat) (cap0 : Int) (ps0 qsA qsB qsC qsD : List Pg) (p i v atA atD eA eB eC eD : Int) (hst0 : StV w (.agg #[.int .i64 cap0, .slice A0 ps0.length c0]) cap0 ps0) (hm : mayP cap0 ps0 = true)
    (hA : allocX cap0 ps0 = (atA, eA, qsA)) (hB : shareL cap0 ps0 p = (eB, qsB)) (hC : freeX cap0 ps0 p = (eC, qsC)) (hD : writeL cap0 ps0 p i v = (atD, eD, qsD))
    (hmA : mayP cap0 qsA = true) (hmB : mayP cap0 qsB = true) (hmC : mayP cap0 qsC = true) (hmD : mayP cap0 qsD = true)
    (hsA : (eA != 0) = true → qsA = ps0) (hsB : (eB != 0) = true → qsB = ps0) (hsC : (eC != 0) = true → qsC = ps0) (hsD : (eD != 0) = true → qsD = ps0)
    (kA : (eA != 0) = true) (kB : (eB != 0) = false) (kC : (eC != 0) = false) (kD : (eD != 0) = true) :
    Calls Try.prog 8 #[.agg #[.int .i64 cap0, .slice A0 ps0.length c0], .int .i64 p, .int .i64 i, .int .i64 v] w fun e w' => e = .returned (.bool true) ∧ Below w.heap.size w w' := by
  have hlen := may_len hm
  have hmay := fun sv W h => may_any cap0 sv ps0 W h
  rw [hm] at hmay
  have cA := fun v W hs => Alloc_any v cap0 ps0 W hs (by omega)
  rw [hA] at cA
  have cB := fun v W hs => Share_any v cap0 ps0 p W hs (by omega)
  rw [hB] at cB
  have cC := fun v W hs => Free_any v cap0 ps0 p W hs (by omega)
  rw [hC] at cC
  have cD := fun u W hs => Write_any u cap0 ps0 p i v W hs (by omega)
  rw [hD] at cD
  have mA := fun sv W h => may_any cap0 sv qsA W h
  rw [hmA] at mA
  have sA := fun v1 v2 W h1 h2 => Same_any v1 v2 cap0 cap0 qsA ps0 W h1 h2
  rw [show sameP cap0 qsA cap0 ps0 = true from by rw [hsA kA]; exact same_refl _ _] at sA
  have mB := fun sv W h => may_any cap0 sv qsB W h
  rw [hmB] at mB
  have mC := fun sv W h => may_any cap0 sv qsC W h
  rw [hmC] at mC
  have mD := fun sv W h => may_any cap0 sv qsD W h
  rw [hmD] at mD
  have sD := fun v1 v2 W h1 h2 => Same_any v1 v2 cap0 cap0 qsD ps0 W h1 h2
  rw [show sameP cap0 qsD cap0 ps0 = true from by rw [hsD kD]; exact same_refl _ _] at sD
  clear hlen hA hB hC hD hm hmA hmB hmC hmD hsA hsB hsC hsD
  go_enter Try.func8, Try.ntmps8
  have hA0 := ((Below.refl w.heap.size w).alloc (Nat.le_refl _) (.cells #[.int .i64 cap0, .slice A0 ps0.length c0] 25))
  replace hst0 := hst0.keep hA0
  have kS := Blk.new_ w 25 #[.int .i64 cap0, .slice A0 ps0.length c0] (w.heap.size) (by simp)
  have hZ0 : Below w.heap.size w _ := hA0
  go_wp2_with fail
  refine (awake_any _).mono ?_
  rintro e w1 ⟨rfl, hb1⟩
  obtain ⟨hc1, hf1⟩ := bcell hb1
  have hz1 := hb1.size
  simp at hz1
  replace hst0 := hst0.keep hb1
  replace kS := kS.keep hb1
  have hY1 := hZ0.trans (hb1.mono hZ0.size)
  have zkS_1 : w.heap.size < w1.heap.size := by omega
  have hZ1 : Below w.heap.size w w1 := hY1
  go_wp2_with fail
  refine (hmay _ _ hst0.sl).mono ?_
  rintro e w2 ⟨rfl, hb2⟩
  obtain ⟨hc2, hf2⟩ := bcell hb2
  have hz2 := hb2.size
  replace hst0 := hst0.keep hb2
  replace kS := kS.keep hb2
  have hY2 := hZ1.trans (hb2.mono hZ1.size)
  have zkS_2 : w.heap.size < w2.heap.size := by omega
  have hZ2 : Below w.heap.size w w2 := hY2
  go_wp2_with fail
  refine (cA _ _ hst0).mono ?_
  rintro e w3 ⟨v3, rfl, hstA, hb3, -⟩
  obtain ⟨hc3, hf3⟩ := bcell hb3
  have hz3 := hb3.size
  replace hst0 := hst0.keep hb3
  replace kS := kS.keep hb3
  have hY3 := hZ2.trans (hb3.mono hZ2.size)
  have zkS_3 : w.heap.size < w3.heap.size := by omega
  obtain ⟨AA, dA, rfl, hstA⟩ := hstA.form
  have hA3 := ((Below.refl w3.heap.size w3).alloc (Nat.le_refl _) (.cells #[.int .i64 cap0, .slice AA qsA.length dA] 25))
  replace hst0 := hst0.keep hA3
  replace kS := kS.keep hA3
  replace hstA := hstA.keep hA3
  have kAx := Blk.new_ w3 25 #[.int .i64 cap0, .slice AA qsA.length dA] (w3.heap.size) (by simp)
  have hZ3 : Below w.heap.size w _ := hY3.trans (hA3.mono hY3.size)
  go_wp2_with fail
  refine (cB _ _ hst0).mono ?_
  rintro e w4 ⟨v4, rfl, hstB, hb4⟩
  obtain ⟨hc4, hf4⟩ := bcell hb4
  have hz4 := hb4.size
  simp at hz4
  replace hst0 := hst0.keep hb4
  replace kS := kS.keep hb4
  replace hstA := hstA.keep hb4
  replace kAx := kAx.keep hb4
  have hY4 := hZ3.trans (hb4.mono hZ3.size)
  have zkS_4 : w.heap.size < w4.heap.size := by omega
  have zkAx_4 : w3.heap.size < w4.heap.size := by omega
  obtain ⟨AB, dB, rfl, hstB⟩ := hstB.form
  have hA4 := ((Below.refl w4.heap.size w4).alloc (Nat.le_refl _) (.cells #[.int .i64 cap0, .slice AB qsB.length dB] 25))
  replace hst0 := hst0.keep hA4
  replace kS := kS.keep hA4
  replace hstA := hstA.keep hA4
  replace kAx := kAx.keep hA4
  replace hstB := hstB.keep hA4
  have kBx := Blk.new_ w4 25 #[.int .i64 cap0, .slice AB qsB.length dB] (w4.heap.size) (by simp)
  have hZ4 : Below w.heap.size w _ := hY4.trans (hA4.mono hY4.size)
  go_wp2_with fail
  refine (cC _ _ hst0).mono ?_
  rintro e w5 ⟨v5, rfl, hstC, hb5⟩
  obtain ⟨hc5, hf5⟩ := bcell hb5
  have hz5 := hb5.size
  simp at hz5
  replace hst0 := hst0.keep hb5
  replace kS := kS.keep hb5
  replace hstA := hstA.keep hb5
  replace kAx := kAx.keep hb5
  replace hstB := hstB.keep hb5
  replace kBx := kBx.keep hb5
  have hY5 := hZ4.trans (hb5.mono hZ4.size)
  have zkS_5 : w.heap.size < w5.heap.size := by omega
  have zkAx_5 : w3.heap.size < w5.heap.size := by omega
  have zkBx_5 : w4.heap.size < w5.heap.size := by omega
  obtain ⟨AC, dC, rfl, hstC⟩ := hstC.form
  have hA5 := ((Below.refl w5.heap.size w5).alloc (Nat.le_refl _) (.cells #[.int .i64 cap0, .slice AC qsC.length dC] 25))
  replace hst0 := hst0.keep hA5
  replace kS := kS.keep hA5
  replace hstA := hstA.keep hA5
  replace kAx := kAx.keep hA5
  replace hstB := hstB.keep hA5
  replace kBx := kBx.keep hA5
  replace hstC := hstC.keep hA5
  have kCx := Blk.new_ w5 25 #[.int .i64 cap0, .slice AC qsC.length dC] (w5.heap.size) (by simp)
  have hZ5 : Below w.heap.size w _ := hY5.trans (hA5.mono hY5.size)
  go_wp2_with fail
  refine (cD _ _ hst0).mono ?_
  rintro e w6 ⟨v6, rfl, hstD, hb6⟩
  obtain ⟨hc6, hf6⟩ := bcell hb6
  have hz6 := hb6.size
  simp at hz6
  replace hst0 := hst0.keep hb6
  replace kS := kS.keep hb6
  replace hstA := hstA.keep hb6
  replace kAx := kAx.keep hb6
  replace hstB := hstB.keep hb6
  replace kBx := kBx.keep hb6
  replace hstC := hstC.keep hb6
  replace kCx := kCx.keep hb6
  have hY6 := hZ5.trans (hb6.mono hZ5.size)
  have zkS_6 : w.heap.size < w6.heap.size := by omega
  have zkAx_6 : w3.heap.size < w6.heap.size := by omega
  have zkBx_6 : w4.heap.size < w6.heap.size := by omega
  have zkCx_6 : w5.heap.size < w6.heap.size := by omega
  obtain ⟨AD, dD, rfl, hstD⟩ := hstD.form
  have hA6 := ((Below.refl w6.heap.size w6).alloc (Nat.le_refl _) (.cells #[.int .i64 cap0, .slice AD qsD.length dD] 25))
  replace hst0 := hst0.keep hA6
  replace kS := kS.keep hA6
  replace hstA := hstA.keep hA6
  replace kAx := kAx.keep hA6
  replace hstB := hstB.keep hA6
  replace kBx := kBx.keep hA6
  replace hstC := hstC.keep hA6
  replace kCx := kCx.keep hA6
  replace hstD := hstD.keep hA6
  have kDx := Blk.new_ w6 25 #[.int .i64 cap0, .slice AD qsD.length dD] (w6.heap.size) (by simp)
  have hZ6 : Below w.heap.size w _ := hY6.trans (hA6.mono hY6.size)
  go_wp2_with fail
  refine (sA _ _ _ hstA hst0).mono ?_
  rintro e w7 ⟨rfl, hb7⟩
  obtain ⟨hc7, hf7⟩ := bcell hb7
  have hz7 := hb7.size
  simp at hz7
  replace hst0 := hst0.keep hb7
  replace kS := kS.keep hb7
  replace hstA := hstA.keep hb7
  replace kAx := kAx.keep hb7
  replace hstB := hstB.keep hb7
  replace kBx := kBx.keep hb7
  replace hstC := hstC.keep hb7
  replace kCx := kCx.keep hb7
  replace hstD := hstD.keep hb7
  replace kDx := kDx.keep hb7
  have hY7 := hZ6.trans (hb7.mono hZ6.size)
  have zkS_7 : w.heap.size < w7.heap.size := by omega
  have zkAx_7 : w3.heap.size < w7.heap.size := by omega
  have zkBx_7 : w4.heap.size < w7.heap.size := by omega
  have zkCx_7 : w5.heap.size < w7.heap.size := by omega
  have zkDx_7 : w6.heap.size < w7.heap.size := by omega
  have hZ7 : Below w.heap.size w w7 := hY7
  go_wp2_with fail
  refine (sD _ _ _ hstD hst0).mono ?_
  rintro e w8 ⟨rfl, hb8⟩
  obtain ⟨hc8, hf8⟩ := bcell hb8
  have hz8 := hb8.size
  replace hst0 := hst0.keep hb8
  replace kS := kS.keep hb8
  replace hstA := hstA.keep hb8
  replace kAx := kAx.keep hb8
  replace hstB := hstB.keep hb8
  replace kBx := kBx.keep hb8
  replace hstC := hstC.keep hb8
  replace kCx := kCx.keep hb8
  replace hstD := hstD.keep hb8
  replace kDx := kDx.keep hb8
  have hY8 := hZ7.trans (hb8.mono hZ7.size)
  have zkS_8 : w.heap.size < w8.heap.size := by omega
  have zkAx_8 : w3.heap.size < w8.heap.size := by omega
  have zkBx_8 : w4.heap.size < w8.heap.size := by omega
  have zkCx_8 : w5.heap.size < w8.heap.size := by omega
  have zkDx_8 : w6.heap.size < w8.heap.size := by omega
  have hZ8 : Below w.heap.size w w8 := hY8
  go_wp2_with fail
  refine (mA _ _ hstA.sl).mono ?_
  rintro e w9 ⟨rfl, hb9⟩
  obtain ⟨hc9, hf9⟩ := bcell hb9
  have hz9 := hb9.size
  replace hst0 := hst0.keep hb9
  replace kS := kS.keep hb9
  replace hstA := hstA.keep hb9
  replace kAx := kAx.keep hb9
  replace hstB := hstB.keep hb9
  replace kBx := kBx.keep hb9
  replace hstC := hstC.keep hb9
  replace kCx := kCx.keep hb9
  replace hstD := hstD.keep hb9
  replace kDx := kDx.keep hb9
  have hY9 := hZ8.trans (hb9.mono hZ8.size)
  have zkS_9 : w.heap.size < w9.heap.size := by omega
  have zkAx_9 : w3.heap.size < w9.heap.size := by omega
  have zkBx_9 : w4.heap.size < w9.heap.size := by omega
  have zkCx_9 : w5.heap.size < w9.heap.size := by omega
  have zkDx_9 : w6.heap.size < w9.heap.size := by omega
  have hZ9 : Below w.heap.size w w9 := hY9
  go_wp2_with fail
  refine (mB _ _ hstB.sl).mono ?_
  rintro e w10 ⟨rfl, hb10⟩
  obtain ⟨hc10, hf10⟩ := bcell hb10
  have hz10 := hb10.size
  replace hst0 := hst0.keep hb10
  replace kS := kS.keep hb10
  replace hstA := hstA.keep hb10
  replace kAx := kAx.keep hb10
  replace hstB := hstB.keep hb10
  replace kBx := kBx.keep hb10
  replace hstC := hstC.keep hb10
  replace kCx := kCx.keep hb10
  replace hstD := hstD.keep hb10
  replace kDx := kDx.keep hb10
  have hY10 := hZ9.trans (hb10.mono hZ9.size)
  have zkS_10 : w.heap.size < w10.heap.size := by omega
  have zkAx_10 : w3.heap.size < w10.heap.size := by omega
  have zkBx_10 : w4.heap.size < w10.heap.size := by omega
  have zkCx_10 : w5.heap.size < w10.heap.size := by omega
  have zkDx_10 : w6.heap.size < w10.heap.size := by omega
  have hZ10 : Below w.heap.size w w10 := hY10
  go_wp2_with fail
  refine (mC _ _ hstC.sl).mono ?_
  rintro e w11 ⟨rfl, hb11⟩
  obtain ⟨hc11, hf11⟩ := bcell hb11
  have hz11 := hb11.size
  replace hst0 := hst0.keep hb11
  replace kS := kS.keep hb11
  replace hstA := hstA.keep hb11
  replace kAx := kAx.keep hb11
  replace hstB := hstB.keep hb11
  replace kBx := kBx.keep hb11
  replace hstC := hstC.keep hb11
  replace kCx := kCx.keep hb11
  replace hstD := hstD.keep hb11
  replace kDx := kDx.keep hb11
  have hY11 := hZ10.trans (hb11.mono hZ10.size)
  have zkS_11 : w.heap.size < w11.heap.size := by omega
  have zkAx_11 : w3.heap.size < w11.heap.size := by omega
  have zkBx_11 : w4.heap.size < w11.heap.size := by omega
  have zkCx_11 : w5.heap.size < w11.heap.size := by omega
  have zkDx_11 : w6.heap.size < w11.heap.size := by omega
  have hZ11 : Below w.heap.size w w11 := hY11
  go_wp2_with fail
  refine (mD _ _ hstD.sl).mono ?_
  rintro e w12 ⟨rfl, hb12⟩
  obtain ⟨hc12, hf12⟩ := bcell hb12
  have hz12 := hb12.size
  replace hst0 := hst0.keep hb12
  replace kS := kS.keep hb12
  replace hstA := hstA.keep hb12
  replace kAx := kAx.keep hb12
  replace hstB := hstB.keep hb12
  replace kBx := kBx.keep hb12
  replace hstC := hstC.keep hb12
  replace kCx := kCx.keep hb12
  replace hstD := hstD.keep hb12
  replace kDx := kDx.keep hb12
  have hY12 := hZ11.trans (hb12.mono hZ11.size)
  have zkS_12 : w.heap.size < w12.heap.size := by omega
  have zkAx_12 : w3.heap.size < w12.heap.size := by omega
  have zkBx_12 : w4.heap.size < w12.heap.size := by omega
  have zkCx_12 : w5.heap.size < w12.heap.size := by omega
  have zkDx_12 : w6.heap.size < w12.heap.size := by omega
  go_wp2
  go_ret
  exact ⟨rfl, hY12⟩

set_option maxRecDepth 100000 in
set_option maxHeartbeats 4000000 in
theorem stays_oxox (w : World) (A0 : Option Addr) (c0 : Nat) (cap0 : Int) (ps0 qsA qsB qsC qsD : List Pg) (p i v atA atD eA eB eC eD : Int) (hst0 : StV w (.agg #[.int .i64 cap0, .slice A0 ps0.length c0]) cap0 ps0) (hm : mayP cap0 ps0 = true)
    (hA : allocX cap0 ps0 = (atA, eA, qsA)) (hB : shareL cap0 ps0 p = (eB, qsB)) (hC : freeX cap0 ps0 p = (eC, qsC)) (hD : writeL cap0 ps0 p i v = (atD, eD, qsD))
    (hmA : mayP cap0 qsA = true) (hmB : mayP cap0 qsB = true) (hmC : mayP cap0 qsC = true) (hmD : mayP cap0 qsD = true)
    (hsA : (eA != 0) = true → qsA = ps0) (hsB : (eB != 0) = true → qsB = ps0) (hsC : (eC != 0) = true → qsC = ps0) (hsD : (eD != 0) = true → qsD = ps0)
    (kA : (eA != 0) = false) (kB : (eB != 0) = true) (kC : (eC != 0) = false) (kD : (eD != 0) = true) :
    Calls Try.prog 8 #[.agg #[.int .i64 cap0, .slice A0 ps0.length c0], .int .i64 p, .int .i64 i, .int .i64 v] w fun e w' => e = .returned (.bool true) ∧ Below w.heap.size w w' := by
  have hlen := may_len hm
  have hmay := fun sv W h => may_any cap0 sv ps0 W h
  rw [hm] at hmay
  have cA := fun v W hs => Alloc_any v cap0 ps0 W hs (by omega)
  rw [hA] at cA
  have cB := fun v W hs => Share_any v cap0 ps0 p W hs (by omega)
  rw [hB] at cB
  have cC := fun v W hs => Free_any v cap0 ps0 p W hs (by omega)
  rw [hC] at cC
  have cD := fun u W hs => Write_any u cap0 ps0 p i v W hs (by omega)
  rw [hD] at cD
  have mA := fun sv W h => may_any cap0 sv qsA W h
  rw [hmA] at mA
  have mB := fun sv W h => may_any cap0 sv qsB W h
  rw [hmB] at mB
  have sB := fun v1 v2 W h1 h2 => Same_any v1 v2 cap0 cap0 qsB ps0 W h1 h2
  rw [show sameP cap0 qsB cap0 ps0 = true from by rw [hsB kB]; exact same_refl _ _] at sB
  have mC := fun sv W h => may_any cap0 sv qsC W h
  rw [hmC] at mC
  have mD := fun sv W h => may_any cap0 sv qsD W h
  rw [hmD] at mD
  have sD := fun v1 v2 W h1 h2 => Same_any v1 v2 cap0 cap0 qsD ps0 W h1 h2
  rw [show sameP cap0 qsD cap0 ps0 = true from by rw [hsD kD]; exact same_refl _ _] at sD
  clear hlen hA hB hC hD hm hmA hmB hmC hmD hsA hsB hsC hsD
  go_enter Try.func8, Try.ntmps8
  have hA0 := ((Below.refl w.heap.size w).alloc (Nat.le_refl _) (.cells #[.int .i64 cap0, .slice A0 ps0.length c0] 25))
  replace hst0 := hst0.keep hA0
  have kS := Blk.new_ w 25 #[.int .i64 cap0, .slice A0 ps0.length c0] (w.heap.size) (by simp)
  have hZ0 : Below w.heap.size w _ := hA0
  go_wp2_with fail
  refine (awake_any _).mono ?_
  rintro e w1 ⟨rfl, hb1⟩
  obtain ⟨hc1, hf1⟩ := bcell hb1
  have hz1 := hb1.size
  simp at hz1
  replace hst0 := hst0.keep hb1
  replace kS := kS.keep hb1
  have hY1 := hZ0.trans (hb1.mono hZ0.size)
  have zkS_1 : w.heap.size < w1.heap.size := by omega
  have hZ1 : Below w.heap.size w w1 := hY1
  go_wp2_with fail
  refine (hmay _ _ hst0.sl).mono ?_
  rintro e w2 ⟨rfl, hb2⟩
  obtain ⟨hc2, hf2⟩ := bcell hb2
  have hz2 := hb2.size
  replace hst0 := hst0.keep hb2
  replace kS := kS.keep hb2
  have hY2 := hZ1.trans (hb2.mono hZ1.size)
  have zkS_2 : w.heap.size < w2.heap.size := by omega
  have hZ2 : Below w.heap.size w w2 := hY2
  go_wp2_with fail
  refine (cA _ _ hst0).mono ?_
  rintro e w3 ⟨v3, rfl, hstA, hb3, -⟩
  obtain ⟨hc3, hf3⟩ := bcell hb3
  have hz3 := hb3.size
  replace hst0 := hst0.keep hb3
  replace kS := kS.keep hb3
  have hY3 := hZ2.trans (hb3.mono hZ2.size)
  have zkS_3 : w.heap.size < w3.heap.size := by omega
  obtain ⟨AA, dA, rfl, hstA⟩ := hstA.form
  have hA3 := ((Below.refl w3.heap.size w3).alloc (Nat.le_refl _) (.cells #[.int .i64 cap0, .slice AA qsA.length dA] 25))
  replace hst0 := hst0.keep hA3
  replace kS := kS.keep hA3
  replace hstA := hstA.keep hA3
  have kAx := Blk.new_ w3 25 #[.int .i64 cap0, .slice AA qsA.length dA] (w3.heap.size) (by simp)
  have hZ3 : Below w.heap.size w _ := hY3.trans (hA3.mono hY3.size)
  go_wp2_with fail
  refine (cB _ _ hst0).mono ?_
  rintro e w4 ⟨v4, rfl, hstB, hb4⟩
  obtain ⟨hc4, hf4⟩ := bcell hb4
  have hz4 := hb4.size
  simp at hz4
  replace hst0 := hst0.keep hb4
  replace kS := kS.keep hb4
  replace hstA := hstA.keep hb4
  replace kAx := kAx.keep hb4
  have hY4 := hZ3.trans (hb4.mono hZ3.size)
  have zkS_4 : w.heap.size < w4.heap.size := by omega
  have zkAx_4 : w3.heap.size < w4.heap.size := by omega
  obtain ⟨AB, dB, rfl, hstB⟩ := hstB.form
  have hA4 := ((Below.refl w4.heap.size w4).alloc (Nat.le_refl _) (.cells #[.int .i64 cap0, .slice AB qsB.length dB] 25))
  replace hst0 := hst0.keep hA4
  replace kS := kS.keep hA4
  replace hstA := hstA.keep hA4
  replace kAx := kAx.keep hA4
  replace hstB := hstB.keep hA4
  have kBx := Blk.new_ w4 25 #[.int .i64 cap0, .slice AB qsB.length dB] (w4.heap.size) (by simp)
  have hZ4 : Below w.heap.size w _ := hY4.trans (hA4.mono hY4.size)
  go_wp2_with fail
  refine (cC _ _ hst0).mono ?_
  rintro e w5 ⟨v5, rfl, hstC, hb5⟩
  obtain ⟨hc5, hf5⟩ := bcell hb5
  have hz5 := hb5.size
  simp at hz5
  replace hst0 := hst0.keep hb5
  replace kS := kS.keep hb5
  replace hstA := hstA.keep hb5
  replace kAx := kAx.keep hb5
  replace hstB := hstB.keep hb5
  replace kBx := kBx.keep hb5
  have hY5 := hZ4.trans (hb5.mono hZ4.size)
  have zkS_5 : w.heap.size < w5.heap.size := by omega
  have zkAx_5 : w3.heap.size < w5.heap.size := by omega
  have zkBx_5 : w4.heap.size < w5.heap.size := by omega
  obtain ⟨AC, dC, rfl, hstC⟩ := hstC.form
  have hA5 := ((Below.refl w5.heap.size w5).alloc (Nat.le_refl _) (.cells #[.int .i64 cap0, .slice AC qsC.length dC] 25))
  replace hst0 := hst0.keep hA5
  replace kS := kS.keep hA5
  replace hstA := hstA.keep hA5
  replace kAx := kAx.keep hA5
  replace hstB := hstB.keep hA5
  replace kBx := kBx.keep hA5
  replace hstC := hstC.keep hA5
  have kCx := Blk.new_ w5 25 #[.int .i64 cap0, .slice AC qsC.length dC] (w5.heap.size) (by simp)
  have hZ5 : Below w.heap.size w _ := hY5.trans (hA5.mono hY5.size)
  go_wp2_with fail
  refine (cD _ _ hst0).mono ?_
  rintro e w6 ⟨v6, rfl, hstD, hb6⟩
  obtain ⟨hc6, hf6⟩ := bcell hb6
  have hz6 := hb6.size
  simp at hz6
  replace hst0 := hst0.keep hb6
  replace kS := kS.keep hb6
  replace hstA := hstA.keep hb6
  replace kAx := kAx.keep hb6
  replace hstB := hstB.keep hb6
  replace kBx := kBx.keep hb6
  replace hstC := hstC.keep hb6
  replace kCx := kCx.keep hb6
  have hY6 := hZ5.trans (hb6.mono hZ5.size)
  have zkS_6 : w.heap.size < w6.heap.size := by omega
  have zkAx_6 : w3.heap.size < w6.heap.size := by omega
  have zkBx_6 : w4.heap.size < w6.heap.size := by omega
  have zkCx_6 : w5.heap.size < w6.heap.size := by omega
  obtain ⟨AD, dD, rfl, hstD⟩ := hstD.form
  have hA6 := ((Below.refl w6.heap.size w6).alloc (Nat.le_refl _) (.cells #[.int .i64 cap0, .slice AD qsD.length dD] 25))
  replace hst0 := hst0.keep hA6
  replace kS := kS.keep hA6
  replace hstA := hstA.keep hA6
  replace kAx := kAx.keep hA6
  replace hstB := hstB.keep hA6
  replace kBx := kBx.keep hA6
  replace hstC := hstC.keep hA6
  replace kCx := kCx.keep hA6
  replace hstD := hstD.keep hA6
  have kDx := Blk.new_ w6 25 #[.int .i64 cap0, .slice AD qsD.length dD] (w6.heap.size) (by simp)
  have hZ6 : Below w.heap.size w _ := hY6.trans (hA6.mono hY6.size)
  go_wp2_with fail
  refine (sB _ _ _ hstB hst0).mono ?_
  rintro e w7 ⟨rfl, hb7⟩
  obtain ⟨hc7, hf7⟩ := bcell hb7
  have hz7 := hb7.size
  simp at hz7
  replace hst0 := hst0.keep hb7
  replace kS := kS.keep hb7
  replace hstA := hstA.keep hb7
  replace kAx := kAx.keep hb7
  replace hstB := hstB.keep hb7
  replace kBx := kBx.keep hb7
  replace hstC := hstC.keep hb7
  replace kCx := kCx.keep hb7
  replace hstD := hstD.keep hb7
  replace kDx := kDx.keep hb7
  have hY7 := hZ6.trans (hb7.mono hZ6.size)
  have zkS_7 : w.heap.size < w7.heap.size := by omega
  have zkAx_7 : w3.heap.size < w7.heap.size := by omega
  have zkBx_7 : w4.heap.size < w7.heap.size := by omega
  have zkCx_7 : w5.heap.size < w7.heap.size := by omega
  have zkDx_7 : w6.heap.size < w7.heap.size := by omega
  have hZ7 : Below w.heap.size w w7 := hY7
  go_wp2_with fail
  refine (sD _ _ _ hstD hst0).mono ?_
  rintro e w8 ⟨rfl, hb8⟩
  obtain ⟨hc8, hf8⟩ := bcell hb8
  have hz8 := hb8.size
  replace hst0 := hst0.keep hb8
  replace kS := kS.keep hb8
  replace hstA := hstA.keep hb8
  replace kAx := kAx.keep hb8
  replace hstB := hstB.keep hb8
  replace kBx := kBx.keep hb8
  replace hstC := hstC.keep hb8
  replace kCx := kCx.keep hb8
  replace hstD := hstD.keep hb8
  replace kDx := kDx.keep hb8
  have hY8 := hZ7.trans (hb8.mono hZ7.size)
  have zkS_8 : w.heap.size < w8.heap.size := by omega
  have zkAx_8 : w3.heap.size < w8.heap.size := by omega
  have zkBx_8 : w4.heap.size < w8.heap.size := by omega
  have zkCx_8 : w5.heap.size < w8.heap.size := by omega
  have zkDx_8 : w6.heap.size < w8.heap.size := by omega
  have hZ8 : Below w.heap.size w w8 := hY8
  go_wp2_with fail
  refine (mA _ _ hstA.sl).mono ?_
  rintro e w9 ⟨rfl, hb9⟩
  obtain ⟨hc9, hf9⟩ := bcell hb9
  have hz9 := hb9.size
  replace hst0 := hst0.keep hb9
  replace kS := kS.keep hb9
  replace hstA := hstA.keep hb9
  replace kAx := kAx.keep hb9
  replace hstB := hstB.keep hb9
  replace kBx := kBx.keep hb9
  replace hstC := hstC.keep hb9
  replace kCx := kCx.keep hb9
  replace hstD := hstD.keep hb9
  replace kDx := kDx.keep hb9
  have hY9 := hZ8.trans (hb9.mono hZ8.size)
  have zkS_9 : w.heap.size < w9.heap.size := by omega
  have zkAx_9 : w3.heap.size < w9.heap.size := by omega
  have zkBx_9 : w4.heap.size < w9.heap.size := by omega
  have zkCx_9 : w5.heap.size < w9.heap.size := by omega
  have zkDx_9 : w6.heap.size < w9.heap.size := by omega
  have hZ9 : Below w.heap.size w w9 := hY9
  go_wp2_with fail
  refine (mB _ _ hstB.sl).mono ?_
  rintro e w10 ⟨rfl, hb10⟩
  obtain ⟨hc10, hf10⟩ := bcell hb10
  have hz10 := hb10.size
  replace hst0 := hst0.keep hb10
  replace kS := kS.keep hb10
  replace hstA := hstA.keep hb10
  replace kAx := kAx.keep hb10
  replace hstB := hstB.keep hb10
  replace kBx := kBx.keep hb10
  replace hstC := hstC.keep hb10
  replace kCx := kCx.keep hb10
  replace hstD := hstD.keep hb10
  replace kDx := kDx.keep hb10
  have hY10 := hZ9.trans (hb10.mono hZ9.size)
  have zkS_10 : w.heap.size < w10.heap.size := by omega
  have zkAx_10 : w3.heap.size < w10.heap.size := by omega
  have zkBx_10 : w4.heap.size < w10.heap.size := by omega
  have zkCx_10 : w5.heap.size < w10.heap.size := by omega
  have zkDx_10 : w6.heap.size < w10.heap.size := by omega
  have hZ10 : Below w.heap.size w w10 := hY10
  go_wp2_with fail
  refine (mC _ _ hstC.sl).mono ?_
  rintro e w11 ⟨rfl, hb11⟩
  obtain ⟨hc11, hf11⟩ := bcell hb11
  have hz11 := hb11.size
  replace hst0 := hst0.keep hb11
  replace kS := kS.keep hb11
  replace hstA := hstA.keep hb11
  replace kAx := kAx.keep hb11
  replace hstB := hstB.keep hb11
  replace kBx := kBx.keep hb11
  replace hstC := hstC.keep hb11
  replace kCx := kCx.keep hb11
  replace hstD := hstD.keep hb11
  replace kDx := kDx.keep hb11
  have hY11 := hZ10.trans (hb11.mono hZ10.size)
  have zkS_11 : w.heap.size < w11.heap.size := by omega
  have zkAx_11 : w3.heap.size < w11.heap.size := by omega
  have zkBx_11 : w4.heap.size < w11.heap.size := by omega
  have zkCx_11 : w5.heap.size < w11.heap.size := by omega
  have zkDx_11 : w6.heap.size < w11.heap.size := by omega
  have hZ11 : Below w.heap.size w w11 := hY11
  go_wp2_with fail
  refine (mD _ _ hstD.sl).mono ?_
  rintro e w12 ⟨rfl, hb12⟩
  obtain ⟨hc12, hf12⟩ := bcell hb12
  have hz12 := hb12.size
  replace hst0 := hst0.keep hb12
  replace kS := kS.keep hb12
  replace hstA := hstA.keep hb12
  replace kAx := kAx.keep hb12
  replace hstB := hstB.keep hb12
  replace kBx := kBx.keep hb12
  replace hstC := hstC.keep hb12
  replace kCx := kCx.keep hb12
  replace hstD := hstD.keep hb12
  replace kDx := kDx.keep hb12
  have hY12 := hZ11.trans (hb12.mono hZ11.size)
  have zkS_12 : w.heap.size < w12.heap.size := by omega
  have zkAx_12 : w3.heap.size < w12.heap.size := by omega
  have zkBx_12 : w4.heap.size < w12.heap.size := by omega
  have zkCx_12 : w5.heap.size < w12.heap.size := by omega
  have zkDx_12 : w6.heap.size < w12.heap.size := by omega
  go_wp2
  go_ret
  exact ⟨rfl, hY12⟩

set_option maxRecDepth 100000 in
set_option maxHeartbeats 4000000 in
theorem stays_xxox (w : World) (A0 : Option Addr) (c0 : Nat) (cap0 : Int) (ps0 qsA qsB qsC qsD : List Pg) (p i v atA atD eA eB eC eD : Int) (hst0 : StV w (.agg #[.int .i64 cap0, .slice A0 ps0.length c0]) cap0 ps0) (hm : mayP cap0 ps0 = true)
    (hA : allocX cap0 ps0 = (atA, eA, qsA)) (hB : shareL cap0 ps0 p = (eB, qsB)) (hC : freeX cap0 ps0 p = (eC, qsC)) (hD : writeL cap0 ps0 p i v = (atD, eD, qsD))
    (hmA : mayP cap0 qsA = true) (hmB : mayP cap0 qsB = true) (hmC : mayP cap0 qsC = true) (hmD : mayP cap0 qsD = true)
    (hsA : (eA != 0) = true → qsA = ps0) (hsB : (eB != 0) = true → qsB = ps0) (hsC : (eC != 0) = true → qsC = ps0) (hsD : (eD != 0) = true → qsD = ps0)
    (kA : (eA != 0) = true) (kB : (eB != 0) = true) (kC : (eC != 0) = false) (kD : (eD != 0) = true) :
    Calls Try.prog 8 #[.agg #[.int .i64 cap0, .slice A0 ps0.length c0], .int .i64 p, .int .i64 i, .int .i64 v] w fun e w' => e = .returned (.bool true) ∧ Below w.heap.size w w' := by
  have hlen := may_len hm
  have hmay := fun sv W h => may_any cap0 sv ps0 W h
  rw [hm] at hmay
  have cA := fun v W hs => Alloc_any v cap0 ps0 W hs (by omega)
  rw [hA] at cA
  have cB := fun v W hs => Share_any v cap0 ps0 p W hs (by omega)
  rw [hB] at cB
  have cC := fun v W hs => Free_any v cap0 ps0 p W hs (by omega)
  rw [hC] at cC
  have cD := fun u W hs => Write_any u cap0 ps0 p i v W hs (by omega)
  rw [hD] at cD
  have mA := fun sv W h => may_any cap0 sv qsA W h
  rw [hmA] at mA
  have sA := fun v1 v2 W h1 h2 => Same_any v1 v2 cap0 cap0 qsA ps0 W h1 h2
  rw [show sameP cap0 qsA cap0 ps0 = true from by rw [hsA kA]; exact same_refl _ _] at sA
  have mB := fun sv W h => may_any cap0 sv qsB W h
  rw [hmB] at mB
  have sB := fun v1 v2 W h1 h2 => Same_any v1 v2 cap0 cap0 qsB ps0 W h1 h2
  rw [show sameP cap0 qsB cap0 ps0 = true from by rw [hsB kB]; exact same_refl _ _] at sB
  have mC := fun sv W h => may_any cap0 sv qsC W h
  rw [hmC] at mC
  have mD := fun sv W h => may_any cap0 sv qsD W h
  rw [hmD] at mD
  have sD := fun v1 v2 W h1 h2 => Same_any v1 v2 cap0 cap0 qsD ps0 W h1 h2
  rw [show sameP cap0 qsD cap0 ps0 = true from by rw [hsD kD]; exact same_refl _ _] at sD
  clear hlen hA hB hC hD hm hmA hmB hmC hmD hsA hsB hsC hsD
  go_enter Try.func8, Try.ntmps8
  have hA0 := ((Below.refl w.heap.size w).alloc (Nat.le_refl _) (.cells #[.int .i64 cap0, .slice A0 ps0.length c0] 25))
  replace hst0 := hst0.keep hA0
  have kS := Blk.new_ w 25 #[.int .i64 cap0, .slice A0 ps0.length c0] (w.heap.size) (by simp)
  have hZ0 : Below w.heap.size w _ := hA0
  go_wp2_with fail
  refine (awake_any _).mono ?_
  rintro e w1 ⟨rfl, hb1⟩
  obtain ⟨hc1, hf1⟩ := bcell hb1
  have hz1 := hb1.size
  simp at hz1
  replace hst0 := hst0.keep hb1
  replace kS := kS.keep hb1
  have hY1 := hZ0.trans (hb1.mono hZ0.size)
  have zkS_1 : w.heap.size < w1.heap.size := by omega
  have hZ1 : Below w.heap.size w w1 := hY1
  go_wp2_with fail
  refine (hmay _ _ hst0.sl).mono ?_
  rintro e w2 ⟨rfl, hb2⟩
  obtain ⟨hc2, hf2⟩ := bcell hb2
  have hz2 := hb2.size
  replace hst0 := hst0.keep hb2
  replace kS := kS.keep hb2
  have hY2 := hZ1.trans (hb2.mono hZ1.size)
  have zkS_2 : w.heap.size < w2.heap.size := by omega
  have hZ2 : Below w.heap.size w w2 := hY2
  go_wp2_with fail
  refine (cA _ _ hst0).mono ?_
  rintro e w3 ⟨v3, rfl, hstA, hb3, -⟩
  obtain ⟨hc3, hf3⟩ := bcell hb3
  have hz3 := hb3.size
  replace hst0 := hst0.keep hb3
  replace kS := kS.keep hb3
  have hY3 := hZ2.trans (hb3.mono hZ2.size)
  have zkS_3 : w.heap.size < w3.heap.size := by omega
  obtain ⟨AA, dA, rfl, hstA⟩ := hstA.form
  have hA3 := ((Below.refl w3.heap.size w3).alloc (Nat.le_refl _) (.cells #[.int .i64 cap0, .slice AA qsA.length dA] 25))
  replace hst0 := hst0.keep hA3
  replace kS := kS.keep hA3
  replace hstA := hstA.keep hA3
  have kAx := Blk.new_ w3 25 #[.int .i64 cap0, .slice AA qsA.length dA] (w3.heap.size) (by simp)
  have hZ3 : Below w.heap.size w _ := hY3.trans (hA3.mono hY3.size)
  go_wp2_with fail
  refine (cB _ _ hst0).mono ?_
  rintro e w4 ⟨v4, rfl, hstB, hb4⟩
  obtain ⟨hc4, hf4⟩ := bcell hb4
  have hz4 := hb4.size
  simp at hz4
  replace hst0 := hst0.keep hb4
  replace kS := kS.keep hb4
  replace hstA := hstA.keep hb4
  replace kAx := kAx.keep hb4
  have hY4 := hZ3.trans (hb4.mono hZ3.size)
  have zkS_4 : w.heap.size < w4.heap.size := by omega
  have zkAx_4 : w3.heap.size < w4.heap.size := by omega
  obtain ⟨AB, dB, rfl, hstB⟩ := hstB.form
  have hA4 := ((Below.refl w4.heap.size w4).alloc (Nat.le_refl _) (.cells #[.int .i64 cap0, .slice AB qsB.length dB] 25))
  replace hst0 := hst0.keep hA4
  replace kS := kS.keep hA4
  replace hstA := hstA.keep hA4
  replace kAx := kAx.keep hA4
  replace hstB := hstB.keep hA4
  have kBx := Blk.new_ w4 25 #[.int .i64 cap0, .slice AB qsB.length dB] (w4.heap.size) (by simp)
  have hZ4 : Below w.heap.size w _ := hY4.trans (hA4.mono hY4.size)
  go_wp2_with fail
  refine (cC _ _ hst0).mono ?_
  rintro e w5 ⟨v5, rfl, hstC, hb5⟩
  obtain ⟨hc5, hf5⟩ := bcell hb5
  have hz5 := hb5.size
  simp at hz5
  replace hst0 := hst0.keep hb5
  replace kS := kS.keep hb5
  replace hstA := hstA.keep hb5
  replace kAx := kAx.keep hb5
  replace hstB := hstB.keep hb5
  replace kBx := kBx.keep hb5
  have hY5 := hZ4.trans (hb5.mono hZ4.size)
  have zkS_5 : w.heap.size < w5.heap.size := by omega
  have zkAx_5 : w3.heap.size < w5.heap.size := by omega
  have zkBx_5 : w4.heap.size < w5.heap.size := by omega
  obtain ⟨AC, dC, rfl, hstC⟩ := hstC.form
  have hA5 := ((Below.refl w5.heap.size w5).alloc (Nat.le_refl _) (.cells #[.int .i64 cap0, .slice AC qsC.length dC] 25))
  replace hst0 := hst0.keep hA5
  replace kS := kS.keep hA5
  replace hstA := hstA.keep hA5
  replace kAx := kAx.keep hA5
  replace hstB := hstB.keep hA5
  replace kBx := kBx.keep hA5
  replace hstC := hstC.keep hA5
  have kCx := Blk.new_ w5 25 #[.int .i64 cap0, .slice AC qsC.length dC] (w5.heap.size) (by simp)
  have hZ5 : Below w.heap.size w _ := hY5.trans (hA5.mono hY5.size)
  go_wp2_with fail
  refine (cD _ _ hst0).mono ?_
  rintro e w6 ⟨v6, rfl, hstD, hb6⟩
  obtain ⟨hc6, hf6⟩ := bcell hb6
  have hz6 := hb6.size
  simp at hz6
  replace hst0 := hst0.keep hb6
  replace kS := kS.keep hb6
  replace hstA := hstA.keep hb6
  replace kAx := kAx.keep hb6
  replace hstB := hstB.keep hb6
  replace kBx := kBx.keep hb6
  replace hstC := hstC.keep hb6
  replace kCx := kCx.keep hb6
  have hY6 := hZ5.trans (hb6.mono hZ5.size)
  have zkS_6 : w.heap.size < w6.heap.size := by omega
  have zkAx_6 : w3.heap.size < w6.heap.size := by omega
  have zkBx_6 : w4.heap.size < w6.heap.size := by omega
  have zkCx_6 : w5.heap.size < w6.heap.size := by omega
  obtain ⟨AD, dD, rfl, hstD⟩ := hstD.form
  have hA6 := ((Below.refl w6.heap.size w6).alloc (Nat.le_refl _) (.cells #[.int .i64 cap0, .slice AD qsD.length dD] 25))
  replace hst0 := hst0.keep hA6
  replace kS := kS.keep hA6
  replace hstA := hstA.keep hA6
  replace kAx := kAx.keep hA6
  replace hstB := hstB.keep hA6
  replace kBx := kBx.keep hA6
  replace hstC := hstC.keep hA6
  replace kCx := kCx.keep hA6
  replace hstD := hstD.keep hA6
  have kDx := Blk.new_ w6 25 #[.int .i64 cap0, .slice AD qsD.length dD] (w6.heap.size) (by simp)
  have hZ6 : Below w.heap.size w _ := hY6.trans (hA6.mono hY6.size)
  go_wp2_with fail
  refine (sA _ _ _ hstA hst0).mono ?_
  rintro e w7 ⟨rfl, hb7⟩
  obtain ⟨hc7, hf7⟩ := bcell hb7
  have hz7 := hb7.size
  simp at hz7
  replace hst0 := hst0.keep hb7
  replace kS := kS.keep hb7
  replace hstA := hstA.keep hb7
  replace kAx := kAx.keep hb7
  replace hstB := hstB.keep hb7
  replace kBx := kBx.keep hb7
  replace hstC := hstC.keep hb7
  replace kCx := kCx.keep hb7
  replace hstD := hstD.keep hb7
  replace kDx := kDx.keep hb7
  have hY7 := hZ6.trans (hb7.mono hZ6.size)
  have zkS_7 : w.heap.size < w7.heap.size := by omega
  have zkAx_7 : w3.heap.size < w7.heap.size := by omega
  have zkBx_7 : w4.heap.size < w7.heap.size := by omega
  have zkCx_7 : w5.heap.size < w7.heap.size := by omega
  have zkDx_7 : w6.heap.size < w7.heap.size := by omega
  have hZ7 : Below w.heap.size w w7 := hY7
  go_wp2_with fail
  refine (sB _ _ _ hstB hst0).mono ?_
  rintro e w8 ⟨rfl, hb8⟩
  obtain ⟨hc8, hf8⟩ := bcell hb8
  have hz8 := hb8.size
  replace hst0 := hst0.keep hb8
  replace kS := kS.keep hb8
  replace hstA := hstA.keep hb8
  replace kAx := kAx.keep hb8
  replace hstB := hstB.keep hb8
  replace kBx := kBx.keep hb8
  replace hstC := hstC.keep hb8
  replace kCx := kCx.keep hb8
  replace hstD := hstD.keep hb8
  replace kDx := kDx.keep hb8
  have hY8 := hZ7.trans (hb8.mono hZ7.size)
  have zkS_8 : w.heap.size < w8.heap.size := by omega
  have zkAx_8 : w3.heap.size < w8.heap.size := by omega
  have zkBx_8 : w4.heap.size < w8.heap.size := by omega
  have zkCx_8 : w5.heap.size < w8.heap.size := by omega
  have zkDx_8 : w6.heap.size < w8.heap.size := by omega
  have hZ8 : Below w.heap.size w w8 := hY8
  go_wp2_with fail
  refine (sD _ _ _ hstD hst0).mono ?_
  rintro e w9 ⟨rfl, hb9⟩
  obtain ⟨hc9, hf9⟩ := bcell hb9
  have hz9 := hb9.size
  replace hst0 := hst0.keep hb9
  replace kS := kS.keep hb9
  replace hstA := hstA.keep hb9
  replace kAx := kAx.keep hb9
  replace hstB := hstB.keep hb9
  replace kBx := kBx.keep hb9
  replace hstC := hstC.keep hb9
  replace kCx := kCx.keep hb9
  replace hstD := hstD.keep hb9
  replace kDx := kDx.keep hb9
  have hY9 := hZ8.trans (hb9.mono hZ8.size)
  have zkS_9 : w.heap.size < w9.heap.size := by omega
  have zkAx_9 : w3.heap.size < w9.heap.size := by omega
  have zkBx_9 : w4.heap.size < w9.heap.size := by omega
  have zkCx_9 : w5.heap.size < w9.heap.size := by omega
  have zkDx_9 : w6.heap.size < w9.heap.size := by omega
  have hZ9 : Below w.heap.size w w9 := hY9
  go_wp2_with fail
  refine (mA _ _ hstA.sl).mono ?_
  rintro e w10 ⟨rfl, hb10⟩
  obtain ⟨hc10, hf10⟩ := bcell hb10
  have hz10 := hb10.size
  replace hst0 := hst0.keep hb10
  replace kS := kS.keep hb10
  replace hstA := hstA.keep hb10
  replace kAx := kAx.keep hb10
  replace hstB := hstB.keep hb10
  replace kBx := kBx.keep hb10
  replace hstC := hstC.keep hb10
  replace kCx := kCx.keep hb10
  replace hstD := hstD.keep hb10
  replace kDx := kDx.keep hb10
  have hY10 := hZ9.trans (hb10.mono hZ9.size)
  have zkS_10 : w.heap.size < w10.heap.size := by omega
  have zkAx_10 : w3.heap.size < w10.heap.size := by omega
  have zkBx_10 : w4.heap.size < w10.heap.size := by omega
  have zkCx_10 : w5.heap.size < w10.heap.size := by omega
  have zkDx_10 : w6.heap.size < w10.heap.size := by omega
  have hZ10 : Below w.heap.size w w10 := hY10
  go_wp2_with fail
  refine (mB _ _ hstB.sl).mono ?_
  rintro e w11 ⟨rfl, hb11⟩
  obtain ⟨hc11, hf11⟩ := bcell hb11
  have hz11 := hb11.size
  replace hst0 := hst0.keep hb11
  replace kS := kS.keep hb11
  replace hstA := hstA.keep hb11
  replace kAx := kAx.keep hb11
  replace hstB := hstB.keep hb11
  replace kBx := kBx.keep hb11
  replace hstC := hstC.keep hb11
  replace kCx := kCx.keep hb11
  replace hstD := hstD.keep hb11
  replace kDx := kDx.keep hb11
  have hY11 := hZ10.trans (hb11.mono hZ10.size)
  have zkS_11 : w.heap.size < w11.heap.size := by omega
  have zkAx_11 : w3.heap.size < w11.heap.size := by omega
  have zkBx_11 : w4.heap.size < w11.heap.size := by omega
  have zkCx_11 : w5.heap.size < w11.heap.size := by omega
  have zkDx_11 : w6.heap.size < w11.heap.size := by omega
  have hZ11 : Below w.heap.size w w11 := hY11
  go_wp2_with fail
  refine (mC _ _ hstC.sl).mono ?_
  rintro e w12 ⟨rfl, hb12⟩
  obtain ⟨hc12, hf12⟩ := bcell hb12
  have hz12 := hb12.size
  replace hst0 := hst0.keep hb12
  replace kS := kS.keep hb12
  replace hstA := hstA.keep hb12
  replace kAx := kAx.keep hb12
  replace hstB := hstB.keep hb12
  replace kBx := kBx.keep hb12
  replace hstC := hstC.keep hb12
  replace kCx := kCx.keep hb12
  replace hstD := hstD.keep hb12
  replace kDx := kDx.keep hb12
  have hY12 := hZ11.trans (hb12.mono hZ11.size)
  have zkS_12 : w.heap.size < w12.heap.size := by omega
  have zkAx_12 : w3.heap.size < w12.heap.size := by omega
  have zkBx_12 : w4.heap.size < w12.heap.size := by omega
  have zkCx_12 : w5.heap.size < w12.heap.size := by omega
  have zkDx_12 : w6.heap.size < w12.heap.size := by omega
  have hZ12 : Below w.heap.size w w12 := hY12
  go_wp2_with fail
  refine (mD _ _ hstD.sl).mono ?_
  rintro e w13 ⟨rfl, hb13⟩
  obtain ⟨hc13, hf13⟩ := bcell hb13
  have hz13 := hb13.size
  replace hst0 := hst0.keep hb13
  replace kS := kS.keep hb13
  replace hstA := hstA.keep hb13
  replace kAx := kAx.keep hb13
  replace hstB := hstB.keep hb13
  replace kBx := kBx.keep hb13
  replace hstC := hstC.keep hb13
  replace kCx := kCx.keep hb13
  replace hstD := hstD.keep hb13
  replace kDx := kDx.keep hb13
  have hY13 := hZ12.trans (hb13.mono hZ12.size)
  have zkS_13 : w.heap.size < w13.heap.size := by omega
  have zkAx_13 : w3.heap.size < w13.heap.size := by omega
  have zkBx_13 : w4.heap.size < w13.heap.size := by omega
  have zkCx_13 : w5.heap.size < w13.heap.size := by omega
  have zkDx_13 : w6.heap.size < w13.heap.size := by omega
  go_wp2
  go_ret
  exact ⟨rfl, hY13⟩

end Go.Proofs.Ytelfkopoppfaaaa
