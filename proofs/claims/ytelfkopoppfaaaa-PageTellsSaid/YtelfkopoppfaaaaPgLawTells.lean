/- The walk of PageTells. -/
import Derived.Test.YtelfkopoppfaaaaRpSame
import Derived.Test.YtelfkopoppfaaaaPgOpen
namespace Go.Proofs.Ytelfkopoppfaaaa
open Go Go.RowKit
set_option linter.unusedVariables false
attribute [local go_sem ↓] Go.wp_at_zero Go.wp_at_succ

set_option maxHeartbeats 400000 in
theorem small_any (v : Value) (cap : Int) (ps : List Pg) (w : World) (hv : StV w v cap ps) :
    Calls Try.prog 16 #[v] w fun e w' => e = .returned (.bool (decide (ps.length ≤ 40))) ∧ Below w.heap.size w w' := by
  obtain ⟨A, c, rfl, hv⟩ := hv.form
  clear hv
  generalize ps.length = n
  have hb0 : Below w.heap.size w (w.alloc (.cells #[.int .i64 cap, .slice A n c] 25)) := (Below.refl _ w).alloc (Nat.le_refl _) _
  by_cases h : n ≤ 40
  · have h' : (n : Int) ≤ 40 := by omega
    rw [decide_eq_true h]
    go_enter Try.func16, Try.ntmps16
    go_wp2
    go_ret
    exact ⟨rfl, hb0⟩
  · have h' : ¬ (n : Int) ≤ 40 := by omega
    rw [decide_eq_false h]
    go_enter Try.func16, Try.ntmps16
    go_wp2
    go_ret
    exact ⟨rfl, hb0⟩

set_option maxRecDepth 100000 in
set_option maxHeartbeats 8000000 in
theorem tells_long (w : World) (A0 A1 : Option Addr) (c0 c1 : Nat) (cap0 cap1 : Int) (ps0 ps1 : List Pg) (hst0 : StV w (.agg #[.int .i64 cap0, .slice A0 ps0.length c0]) cap0 ps0) (hst1 : StV w (.agg #[.int .i64 cap1, .slice A1 ps1.length c1]) cap1 ps1) (p i v : Int) (h : ¬ ps0.length ≤ 40) :
    Calls Try.prog 7 #[.agg #[.int .i64 cap0, .slice A0 ps0.length c0], .agg #[.int .i64 cap1, .slice A1 ps1.length c1], .int .i64 p, .int .i64 i, .int .i64 v] w fun e w' => e = .returned (.bool true) ∧ Below w.heap.size w w' := by
  have m0 := fun v W h => small_any v cap0 ps0 W h
  have m1 := fun v W h => small_any v cap1 ps1 W h
  rw [decide_eq_false h] at m0
  generalize decide (ps1.length ≤ 40) = q at m1
  go_enter Try.func7, Try.ntmps7
  have hA0 := (((Below.refl w.heap.size w).alloc (Nat.le_refl _) (.cells #[.int .i64 cap0, .slice A0 ps0.length c0] 25)).alloc (by simp) (.cells #[.int .i64 cap1, .slice A1 ps1.length c1] 25))
  replace hst0 := hst0.keep hA0
  replace hst1 := hst1.keep hA0
  have kS := (Blk.new_ w 25 #[.int .i64 cap0, .slice A0 ps0.length c0] (w.heap.size) (by simp)).alloc (.cells #[.int .i64 cap1, .slice A1 ps1.length c1] 25)
  have kT := Blk.new_ (w.alloc (.cells #[.int .i64 cap0, .slice A0 ps0.length c0] 25)) 25 #[.int .i64 cap1, .slice A1 ps1.length c1] (w.heap.size + 1) (by simp)
  have hZ0 : Below w.heap.size w _ := hA0
  go_wp2_with fail
  refine (awake_any _).mono ?_
  rintro e w1 ⟨rfl, hb1⟩
  obtain ⟨hc1, hf1⟩ := bcell hb1
  have hz1 := hb1.size
  simp at hz1
  replace hst0 := hst0.keep hb1
  replace hst1 := hst1.keep hb1
  replace kS := kS.keep hb1
  replace kT := kT.keep hb1
  have hY1 := hZ0.trans (hb1.mono hZ0.size)
  have zkS_1 : w.heap.size < w1.heap.size := by omega
  have zkT_1 : w.heap.size + 1 < w1.heap.size := by omega
  have hZ1 : Below w.heap.size w w1 := hY1
  go_wp2_with fail
  refine (m0 _ _ hst0).mono ?_
  rintro e w2 ⟨rfl, hb2⟩
  obtain ⟨hc2, hf2⟩ := bcell hb2
  have hz2 := hb2.size
  replace hst0 := hst0.keep hb2
  replace hst1 := hst1.keep hb2
  replace kS := kS.keep hb2
  replace kT := kT.keep hb2
  have hY2 := hZ1.trans (hb2.mono hZ1.size)
  have zkS_2 : w.heap.size < w2.heap.size := by omega
  have zkT_2 : w.heap.size + 1 < w2.heap.size := by omega
  have hZ2 : Below w.heap.size w w2 := hY2
  go_wp2_with fail
  refine (m1 _ _ hst1).mono ?_
  rintro e w3 ⟨rfl, hb3⟩
  obtain ⟨hc3, hf3⟩ := bcell hb3
  have hz3 := hb3.size
  replace hst0 := hst0.keep hb3
  replace hst1 := hst1.keep hb3
  replace kS := kS.keep hb3
  replace kT := kT.keep hb3
  have hY3 := hZ2.trans (hb3.mono hZ2.size)
  have zkS_3 : w.heap.size < w3.heap.size := by omega
  have zkT_3 : w.heap.size + 1 < w3.heap.size := by omega
  go_wp2
  go_ret
  exact ⟨rfl, hY3⟩

set_option maxRecDepth 100000 in
set_option maxHeartbeats 8000000 in
theorem tells_long1 (w : World) (A0 A1 : Option Addr) (c0 c1 : Nat) (cap0 cap1 : Int) (ps0 ps1 : List Pg) (hst0 : StV w (.agg #[.int .i64 cap0, .slice A0 ps0.length c0]) cap0 ps0) (hst1 : StV w (.agg #[.int .i64 cap1, .slice A1 ps1.length c1]) cap1 ps1) (p i v : Int) (h : ps0.length ≤ 40) (h1 : ¬ ps1.length ≤ 40) :
    Calls Try.prog 7 #[.agg #[.int .i64 cap0, .slice A0 ps0.length c0], .agg #[.int .i64 cap1, .slice A1 ps1.length c1], .int .i64 p, .int .i64 i, .int .i64 v] w fun e w' => e = .returned (.bool true) ∧ Below w.heap.size w w' := by
  have m0 := fun v W h => small_any v cap0 ps0 W h
  have m1 := fun v W h => small_any v cap1 ps1 W h
  rw [decide_eq_true h] at m0
  rw [decide_eq_false h1] at m1
  go_enter Try.func7, Try.ntmps7
  have hA0 := (((Below.refl w.heap.size w).alloc (Nat.le_refl _) (.cells #[.int .i64 cap0, .slice A0 ps0.length c0] 25)).alloc (by simp) (.cells #[.int .i64 cap1, .slice A1 ps1.length c1] 25))
  replace hst0 := hst0.keep hA0
  replace hst1 := hst1.keep hA0
  have kS := (Blk.new_ w 25 #[.int .i64 cap0, .slice A0 ps0.length c0] (w.heap.size) (by simp)).alloc (.cells #[.int .i64 cap1, .slice A1 ps1.length c1] 25)
  have kT := Blk.new_ (w.alloc (.cells #[.int .i64 cap0, .slice A0 ps0.length c0] 25)) 25 #[.int .i64 cap1, .slice A1 ps1.length c1] (w.heap.size + 1) (by simp)
  have hZ0 : Below w.heap.size w _ := hA0
  go_wp2_with fail
  refine (awake_any _).mono ?_
  rintro e w1 ⟨rfl, hb1⟩
  obtain ⟨hc1, hf1⟩ := bcell hb1
  have hz1 := hb1.size
  simp at hz1
  replace hst0 := hst0.keep hb1
  replace hst1 := hst1.keep hb1
  replace kS := kS.keep hb1
  replace kT := kT.keep hb1
  have hY1 := hZ0.trans (hb1.mono hZ0.size)
  have zkS_1 : w.heap.size < w1.heap.size := by omega
  have zkT_1 : w.heap.size + 1 < w1.heap.size := by omega
  have hZ1 : Below w.heap.size w w1 := hY1
  go_wp2_with fail
  refine (m0 _ _ hst0).mono ?_
  rintro e w2 ⟨rfl, hb2⟩
  obtain ⟨hc2, hf2⟩ := bcell hb2
  have hz2 := hb2.size
  replace hst0 := hst0.keep hb2
  replace hst1 := hst1.keep hb2
  replace kS := kS.keep hb2
  replace kT := kT.keep hb2
  have hY2 := hZ1.trans (hb2.mono hZ1.size)
  have zkS_2 : w.heap.size < w2.heap.size := by omega
  have zkT_2 : w.heap.size + 1 < w2.heap.size := by omega
  have hZ2 : Below w.heap.size w w2 := hY2
  go_wp2_with fail
  refine (m1 _ _ hst1).mono ?_
  rintro e w3 ⟨rfl, hb3⟩
  obtain ⟨hc3, hf3⟩ := bcell hb3
  have hz3 := hb3.size
  replace hst0 := hst0.keep hb3
  replace hst1 := hst1.keep hb3
  replace kS := kS.keep hb3
  replace kT := kT.keep hb3
  have hY3 := hZ2.trans (hb3.mono hZ2.size)
  have zkS_3 : w.heap.size < w3.heap.size := by omega
  have zkT_3 : w.heap.size + 1 < w3.heap.size := by omega
  go_wp2
  go_ret
  exact ⟨rfl, hY3⟩

set_option maxRecDepth 100000 in
set_option maxHeartbeats 8000000 in
theorem tells_main (w : World) (A0 A1 : Option Addr) (c0 c1 : Nat) (cap0 cap1 : Int) (ps0 ps1 : List Pg) (hst0 : StV w (.agg #[.int .i64 cap0, .slice A0 ps0.length c0]) cap0 ps0) (hst1 : StV w (.agg #[.int .i64 cap1, .slice A1 ps1.length c1]) cap1 ps1) (p i v : Int) (h : ps0.length ≤ 40) (h1 : ps1.length ≤ 40) (atA eA eB eC atD eD : Int) (qsA qsB qsC qsD : List Pg) (hA : allocX cap0 ps0 = (atA, eA, qsA)) (hB : shareL cap0 ps0 p = (eB, qsB)) (hC : freeX cap0 ps0 p = (eC, qsC)) (hD : writeL cap0 ps0 p i v = (atD, eD, qsD)) :
    Calls Try.prog 7 #[.agg #[.int .i64 cap0, .slice A0 ps0.length c0], .agg #[.int .i64 cap1, .slice A1 ps1.length c1], .int .i64 p, .int .i64 i, .int .i64 v] w fun e w' => e = .returned (.bool true) ∧ Below w.heap.size w w' := by
  have m0 := fun v W h => small_any v cap0 ps0 W h
  have m1 := fun v W h => small_any v cap1 ps1 W h
  rw [decide_eq_true h] at m0
  rw [decide_eq_true h1] at m1
  have cA := fun x W hs => Alloc_any x cap0 ps0 W hs (by omega)
  rw [hA] at cA
  have rA := fun x W hs => RAlloc_any x cap0 ps0 W hs (by omega)
  rw [hA] at rA
  have cB := fun x W hs => Share_any x cap0 ps0 p W hs (by omega)
  rw [hB] at cB
  have rB := fun x W hs => RShare_any x cap0 p ps0 W hs (by omega)
  rw [hB] at rB
  have cC := fun x W hs => Free_any x cap0 ps0 p W hs (by omega)
  rw [hC] at cC
  have rC := fun x W hs => RFree_any x cap0 p ps0 W hs (by omega)
  rw [hC] at rC
  have cD := fun x W hs => Write_any x cap0 ps0 p i v W hs (by omega)
  rw [hD] at cD
  have rD := fun x W hs => RWrite_any x cap0 p i v ps0 W hs (by omega)
  rw [hD] at rD
  have sA := fun k xs v1 v2 W h1 h2 => RSame_any v1 v2 k k xs xs W h1 h2
  simp only [same_refl] at sA
  have n1 := fun sv W h => may_any cap0 sv ps0 W h
  have n2 := fun sv W h => rmay_any cap0 sv ps0 W h
  have s1 := fun v1 v2 W h1 h2 => Same_any v1 v2 cap0 cap1 ps0 ps1 W h1 h2
  have s2 := fun v1 v2 W h1 h2 => RSame_any v1 v2 cap0 cap1 ps0 ps1 W h1 h2
  have u1 := fun v W h => Used_any v cap0 ps0 W h
  have u2 := fun v W h => RUsed_any v cap0 ps0 W h
  generalize mayP cap0 ps0 = q1 at n1 n2
  generalize sameP cap0 ps0 cap1 ps1 = q2 at s1 s2
  generalize usedL cap0 ps0 = q3 at u1 u2
  clear hA hB hC hD h h1
  go_enter Try.func7, Try.ntmps7
  have hA0 := (((Below.refl w.heap.size w).alloc (Nat.le_refl _) (.cells #[.int .i64 cap0, .slice A0 ps0.length c0] 25)).alloc (by simp) (.cells #[.int .i64 cap1, .slice A1 ps1.length c1] 25))
  replace hst0 := hst0.keep hA0
  replace hst1 := hst1.keep hA0
  have kS := (Blk.new_ w 25 #[.int .i64 cap0, .slice A0 ps0.length c0] (w.heap.size) (by simp)).alloc (.cells #[.int .i64 cap1, .slice A1 ps1.length c1] 25)
  have kT := Blk.new_ (w.alloc (.cells #[.int .i64 cap0, .slice A0 ps0.length c0] 25)) 25 #[.int .i64 cap1, .slice A1 ps1.length c1] (w.heap.size + 1) (by simp)
  have hZ0 : Below w.heap.size w _ := hA0
  go_wp2_with fail
  refine (awake_any _).mono ?_
  rintro e w1 ⟨rfl, hb1⟩
  obtain ⟨hc1, hf1⟩ := bcell hb1
  have hz1 := hb1.size
  simp at hz1
  replace hst0 := hst0.keep hb1
  replace hst1 := hst1.keep hb1
  replace kS := kS.keep hb1
  replace kT := kT.keep hb1
  have hY1 := hZ0.trans (hb1.mono hZ0.size)
  have zkS_1 : w.heap.size < w1.heap.size := by omega
  have zkT_1 : w.heap.size + 1 < w1.heap.size := by omega
  have hZ1 : Below w.heap.size w w1 := hY1
  go_wp2_with fail
  refine (m0 _ _ hst0).mono ?_
  rintro e w2 ⟨rfl, hb2⟩
  obtain ⟨hc2, hf2⟩ := bcell hb2
  have hz2 := hb2.size
  replace hst0 := hst0.keep hb2
  replace hst1 := hst1.keep hb2
  replace kS := kS.keep hb2
  replace kT := kT.keep hb2
  have hY2 := hZ1.trans (hb2.mono hZ1.size)
  have zkS_2 : w.heap.size < w2.heap.size := by omega
  have zkT_2 : w.heap.size + 1 < w2.heap.size := by omega
  have hZ2 : Below w.heap.size w w2 := hY2
  go_wp2_with fail
  refine (m1 _ _ hst1).mono ?_
  rintro e w3 ⟨rfl, hb3⟩
  obtain ⟨hc3, hf3⟩ := bcell hb3
  have hz3 := hb3.size
  replace hst0 := hst0.keep hb3
  replace hst1 := hst1.keep hb3
  replace kS := kS.keep hb3
  replace kT := kT.keep hb3
  have hY3 := hZ2.trans (hb3.mono hZ2.size)
  have zkS_3 : w.heap.size < w3.heap.size := by omega
  have zkT_3 : w.heap.size + 1 < w3.heap.size := by omega
  have hZ3 : Below w.heap.size w w3 := hY3
  go_wp2_with fail
  refine (cA _ _ hst0).mono ?_
  rintro e w4 ⟨v4, rfl, hstA, hb4, -⟩
  obtain ⟨hc4, hf4⟩ := bcell hb4
  have hz4 := hb4.size
  replace hst0 := hst0.keep hb4
  replace hst1 := hst1.keep hb4
  replace kS := kS.keep hb4
  replace kT := kT.keep hb4
  have hY4 := hZ3.trans (hb4.mono hZ3.size)
  have zkS_4 : w.heap.size < w4.heap.size := by omega
  have zkT_4 : w.heap.size + 1 < w4.heap.size := by omega
  try dsimp only at hstA
  obtain ⟨AA, dA, rfl, hstA⟩ := hstA.form
  have hA4 := ((Below.refl w4.heap.size w4).alloc (Nat.le_refl _) (.cells #[.int .i64 cap0, .slice AA qsA.length dA] 25))
  replace hst0 := hst0.keep hA4
  replace hst1 := hst1.keep hA4
  replace kS := kS.keep hA4
  replace kT := kT.keep hA4
  replace hstA := hstA.keep hA4
  have kAx := Blk.new_ w4 25 #[.int .i64 cap0, .slice AA qsA.length dA] (w4.heap.size) (by simp)
  have hZ4 : Below w.heap.size w _ := hY4.trans (hA4.mono hY4.size)
  go_wp2_with fail
  refine (rA _ _ hst0).mono ?_
  rintro e w5 ⟨v5, rfl, ⟨hstAr, -⟩, hb5⟩
  obtain ⟨hc5, hf5⟩ := bcell hb5
  have hz5 := hb5.size
  simp at hz5
  replace hst0 := hst0.keep hb5
  replace hst1 := hst1.keep hb5
  replace kS := kS.keep hb5
  replace kT := kT.keep hb5
  replace hstA := hstA.keep hb5
  replace kAx := kAx.keep hb5
  have hY5 := hZ4.trans (hb5.mono hZ4.size)
  have zkS_5 : w.heap.size < w5.heap.size := by omega
  have zkT_5 : w.heap.size + 1 < w5.heap.size := by omega
  have zkAx_5 : w4.heap.size < w5.heap.size := by omega
  try dsimp only at hstAr
  obtain ⟨AAr, dAr, rfl, hstAr⟩ := hstAr.form
  have hA5 := ((Below.refl w5.heap.size w5).alloc (Nat.le_refl _) (.cells #[.int .i64 cap0, .slice AAr qsA.length dAr] 25))
  replace hst0 := hst0.keep hA5
  replace hst1 := hst1.keep hA5
  replace kS := kS.keep hA5
  replace kT := kT.keep hA5
  replace hstA := hstA.keep hA5
  replace kAx := kAx.keep hA5
  replace hstAr := hstAr.keep hA5
  have kArx := Blk.new_ w5 25 #[.int .i64 cap0, .slice AAr qsA.length dAr] (w5.heap.size) (by simp)
  have hZ5 : Below w.heap.size w _ := hY5.trans (hA5.mono hY5.size)
  go_wp2_with fail
  refine (cB _ _ hst0).mono ?_
  rintro e w6 ⟨v6, rfl, hstB, hb6⟩
  obtain ⟨hc6, hf6⟩ := bcell hb6
  have hz6 := hb6.size
  simp at hz6
  replace hst0 := hst0.keep hb6
  replace hst1 := hst1.keep hb6
  replace kS := kS.keep hb6
  replace kT := kT.keep hb6
  replace hstA := hstA.keep hb6
  replace kAx := kAx.keep hb6
  replace hstAr := hstAr.keep hb6
  replace kArx := kArx.keep hb6
  have hY6 := hZ5.trans (hb6.mono hZ5.size)
  have zkS_6 : w.heap.size < w6.heap.size := by omega
  have zkT_6 : w.heap.size + 1 < w6.heap.size := by omega
  have zkAx_6 : w4.heap.size < w6.heap.size := by omega
  have zkArx_6 : w5.heap.size < w6.heap.size := by omega
  try dsimp only at hstB
  obtain ⟨AB, dB, rfl, hstB⟩ := hstB.form
  have hA6 := ((Below.refl w6.heap.size w6).alloc (Nat.le_refl _) (.cells #[.int .i64 cap0, .slice AB qsB.length dB] 25))
  replace hst0 := hst0.keep hA6
  replace hst1 := hst1.keep hA6
  replace kS := kS.keep hA6
  replace kT := kT.keep hA6
  replace hstA := hstA.keep hA6
  replace kAx := kAx.keep hA6
  replace hstAr := hstAr.keep hA6
  replace kArx := kArx.keep hA6
  replace hstB := hstB.keep hA6
  have kBx := Blk.new_ w6 25 #[.int .i64 cap0, .slice AB qsB.length dB] (w6.heap.size) (by simp)
  have hZ6 : Below w.heap.size w _ := hY6.trans (hA6.mono hY6.size)
  go_wp2_with fail
  refine (rB _ _ hst0).mono ?_
  rintro e w7 ⟨v7, rfl, ⟨hstBr, -⟩, hb7⟩
  obtain ⟨hc7, hf7⟩ := bcell hb7
  have hz7 := hb7.size
  simp at hz7
  replace hst0 := hst0.keep hb7
  replace hst1 := hst1.keep hb7
  replace kS := kS.keep hb7
  replace kT := kT.keep hb7
  replace hstA := hstA.keep hb7
  replace kAx := kAx.keep hb7
  replace hstAr := hstAr.keep hb7
  replace kArx := kArx.keep hb7
  replace hstB := hstB.keep hb7
  replace kBx := kBx.keep hb7
  have hY7 := hZ6.trans (hb7.mono hZ6.size)
  have zkS_7 : w.heap.size < w7.heap.size := by omega
  have zkT_7 : w.heap.size + 1 < w7.heap.size := by omega
  have zkAx_7 : w4.heap.size < w7.heap.size := by omega
  have zkArx_7 : w5.heap.size < w7.heap.size := by omega
  have zkBx_7 : w6.heap.size < w7.heap.size := by omega
  try dsimp only at hstBr
  obtain ⟨ABr, dBr, rfl, hstBr⟩ := hstBr.form
  have hA7 := ((Below.refl w7.heap.size w7).alloc (Nat.le_refl _) (.cells #[.int .i64 cap0, .slice ABr qsB.length dBr] 25))
  replace hst0 := hst0.keep hA7
  replace hst1 := hst1.keep hA7
  replace kS := kS.keep hA7
  replace kT := kT.keep hA7
  replace hstA := hstA.keep hA7
  replace kAx := kAx.keep hA7
  replace hstAr := hstAr.keep hA7
  replace kArx := kArx.keep hA7
  replace hstB := hstB.keep hA7
  replace kBx := kBx.keep hA7
  replace hstBr := hstBr.keep hA7
  have kBrx := Blk.new_ w7 25 #[.int .i64 cap0, .slice ABr qsB.length dBr] (w7.heap.size) (by simp)
  have hZ7 : Below w.heap.size w _ := hY7.trans (hA7.mono hY7.size)
  go_wp2_with fail
  refine (cC _ _ hst0).mono ?_
  rintro e w8 ⟨v8, rfl, hstC, hb8⟩
  obtain ⟨hc8, hf8⟩ := bcell hb8
  have hz8 := hb8.size
  simp at hz8
  replace hst0 := hst0.keep hb8
  replace hst1 := hst1.keep hb8
  replace kS := kS.keep hb8
  replace kT := kT.keep hb8
  replace hstA := hstA.keep hb8
  replace kAx := kAx.keep hb8
  replace hstAr := hstAr.keep hb8
  replace kArx := kArx.keep hb8
  replace hstB := hstB.keep hb8
  replace kBx := kBx.keep hb8
  replace hstBr := hstBr.keep hb8
  replace kBrx := kBrx.keep hb8
  have hY8 := hZ7.trans (hb8.mono hZ7.size)
  have zkS_8 : w.heap.size < w8.heap.size := by omega
  have zkT_8 : w.heap.size + 1 < w8.heap.size := by omega
  have zkAx_8 : w4.heap.size < w8.heap.size := by omega
  have zkArx_8 : w5.heap.size < w8.heap.size := by omega
  have zkBx_8 : w6.heap.size < w8.heap.size := by omega
  have zkBrx_8 : w7.heap.size < w8.heap.size := by omega
  try dsimp only at hstC
  obtain ⟨AC, dC, rfl, hstC⟩ := hstC.form
  have hA8 := ((Below.refl w8.heap.size w8).alloc (Nat.le_refl _) (.cells #[.int .i64 cap0, .slice AC qsC.length dC] 25))
  replace hst0 := hst0.keep hA8
  replace hst1 := hst1.keep hA8
  replace kS := kS.keep hA8
  replace kT := kT.keep hA8
  replace hstA := hstA.keep hA8
  replace kAx := kAx.keep hA8
  replace hstAr := hstAr.keep hA8
  replace kArx := kArx.keep hA8
  replace hstB := hstB.keep hA8
  replace kBx := kBx.keep hA8
  replace hstBr := hstBr.keep hA8
  replace kBrx := kBrx.keep hA8
  replace hstC := hstC.keep hA8
  have kCx := Blk.new_ w8 25 #[.int .i64 cap0, .slice AC qsC.length dC] (w8.heap.size) (by simp)
  have hZ8 : Below w.heap.size w _ := hY8.trans (hA8.mono hY8.size)
  go_wp2_with fail
  refine (rC _ _ hst0).mono ?_
  rintro e w9 ⟨v9, rfl, ⟨hstCr, -⟩, hb9⟩
  obtain ⟨hc9, hf9⟩ := bcell hb9
  have hz9 := hb9.size
  simp at hz9
  replace hst0 := hst0.keep hb9
  replace hst1 := hst1.keep hb9
  replace kS := kS.keep hb9
  replace kT := kT.keep hb9
  replace hstA := hstA.keep hb9
  replace kAx := kAx.keep hb9
  replace hstAr := hstAr.keep hb9
  replace kArx := kArx.keep hb9
  replace hstB := hstB.keep hb9
  replace kBx := kBx.keep hb9
  replace hstBr := hstBr.keep hb9
  replace kBrx := kBrx.keep hb9
  replace hstC := hstC.keep hb9
  replace kCx := kCx.keep hb9
  have hY9 := hZ8.trans (hb9.mono hZ8.size)
  have zkS_9 : w.heap.size < w9.heap.size := by omega
  have zkT_9 : w.heap.size + 1 < w9.heap.size := by omega
  have zkAx_9 : w4.heap.size < w9.heap.size := by omega
  have zkArx_9 : w5.heap.size < w9.heap.size := by omega
  have zkBx_9 : w6.heap.size < w9.heap.size := by omega
  have zkBrx_9 : w7.heap.size < w9.heap.size := by omega
  have zkCx_9 : w8.heap.size < w9.heap.size := by omega
  try dsimp only at hstCr
  obtain ⟨ACr, dCr, rfl, hstCr⟩ := hstCr.form
  have hA9 := ((Below.refl w9.heap.size w9).alloc (Nat.le_refl _) (.cells #[.int .i64 cap0, .slice ACr qsC.length dCr] 25))
  replace hst0 := hst0.keep hA9
  replace hst1 := hst1.keep hA9
  replace kS := kS.keep hA9
  replace kT := kT.keep hA9
  replace hstA := hstA.keep hA9
  replace kAx := kAx.keep hA9
  replace hstAr := hstAr.keep hA9
  replace kArx := kArx.keep hA9
  replace hstB := hstB.keep hA9
  replace kBx := kBx.keep hA9
  replace hstBr := hstBr.keep hA9
  replace kBrx := kBrx.keep hA9
  replace hstC := hstC.keep hA9
  replace kCx := kCx.keep hA9
  replace hstCr := hstCr.keep hA9
  have kCrx := Blk.new_ w9 25 #[.int .i64 cap0, .slice ACr qsC.length dCr] (w9.heap.size) (by simp)
  have hZ9 : Below w.heap.size w _ := hY9.trans (hA9.mono hY9.size)
  go_wp2_with fail
  refine (cD _ _ hst0).mono ?_
  rintro e w10 ⟨v10, rfl, hstD, hb10⟩
  obtain ⟨hc10, hf10⟩ := bcell hb10
  have hz10 := hb10.size
  simp at hz10
  replace hst0 := hst0.keep hb10
  replace hst1 := hst1.keep hb10
  replace kS := kS.keep hb10
  replace kT := kT.keep hb10
  replace hstA := hstA.keep hb10
  replace kAx := kAx.keep hb10
  replace hstAr := hstAr.keep hb10
  replace kArx := kArx.keep hb10
  replace hstB := hstB.keep hb10
  replace kBx := kBx.keep hb10
  replace hstBr := hstBr.keep hb10
  replace kBrx := kBrx.keep hb10
  replace hstC := hstC.keep hb10
  replace kCx := kCx.keep hb10
  replace hstCr := hstCr.keep hb10
  replace kCrx := kCrx.keep hb10
  have hY10 := hZ9.trans (hb10.mono hZ9.size)
  have zkS_10 : w.heap.size < w10.heap.size := by omega
  have zkT_10 : w.heap.size + 1 < w10.heap.size := by omega
  have zkAx_10 : w4.heap.size < w10.heap.size := by omega
  have zkArx_10 : w5.heap.size < w10.heap.size := by omega
  have zkBx_10 : w6.heap.size < w10.heap.size := by omega
  have zkBrx_10 : w7.heap.size < w10.heap.size := by omega
  have zkCx_10 : w8.heap.size < w10.heap.size := by omega
  have zkCrx_10 : w9.heap.size < w10.heap.size := by omega
  try dsimp only at hstD
  obtain ⟨AD, dD, rfl, hstD⟩ := hstD.form
  have hA10 := ((Below.refl w10.heap.size w10).alloc (Nat.le_refl _) (.cells #[.int .i64 cap0, .slice AD qsD.length dD] 25))
  replace hst0 := hst0.keep hA10
  replace hst1 := hst1.keep hA10
  replace kS := kS.keep hA10
  replace kT := kT.keep hA10
  replace hstA := hstA.keep hA10
  replace kAx := kAx.keep hA10
  replace hstAr := hstAr.keep hA10
  replace kArx := kArx.keep hA10
  replace hstB := hstB.keep hA10
  replace kBx := kBx.keep hA10
  replace hstBr := hstBr.keep hA10
  replace kBrx := kBrx.keep hA10
  replace hstC := hstC.keep hA10
  replace kCx := kCx.keep hA10
  replace hstCr := hstCr.keep hA10
  replace kCrx := kCrx.keep hA10
  replace hstD := hstD.keep hA10
  have kDx := Blk.new_ w10 25 #[.int .i64 cap0, .slice AD qsD.length dD] (w10.heap.size) (by simp)
  have hZ10 : Below w.heap.size w _ := hY10.trans (hA10.mono hY10.size)
  go_wp2_with fail
  refine (rD _ _ hst0).mono ?_
  rintro e w11 ⟨v11, rfl, hstDr, hb11⟩
  obtain ⟨hc11, hf11⟩ := bcell hb11
  have hz11 := hb11.size
  simp at hz11
  replace hst0 := hst0.keep hb11
  replace hst1 := hst1.keep hb11
  replace kS := kS.keep hb11
  replace kT := kT.keep hb11
  replace hstA := hstA.keep hb11
  replace kAx := kAx.keep hb11
  replace hstAr := hstAr.keep hb11
  replace kArx := kArx.keep hb11
  replace hstB := hstB.keep hb11
  replace kBx := kBx.keep hb11
  replace hstBr := hstBr.keep hb11
  replace kBrx := kBrx.keep hb11
  replace hstC := hstC.keep hb11
  replace kCx := kCx.keep hb11
  replace hstCr := hstCr.keep hb11
  replace kCrx := kCrx.keep hb11
  replace hstD := hstD.keep hb11
  replace kDx := kDx.keep hb11
  have hY11 := hZ10.trans (hb11.mono hZ10.size)
  have zkS_11 : w.heap.size < w11.heap.size := by omega
  have zkT_11 : w.heap.size + 1 < w11.heap.size := by omega
  have zkAx_11 : w4.heap.size < w11.heap.size := by omega
  have zkArx_11 : w5.heap.size < w11.heap.size := by omega
  have zkBx_11 : w6.heap.size < w11.heap.size := by omega
  have zkBrx_11 : w7.heap.size < w11.heap.size := by omega
  have zkCx_11 : w8.heap.size < w11.heap.size := by omega
  have zkCrx_11 : w9.heap.size < w11.heap.size := by omega
  have zkDx_11 : w10.heap.size < w11.heap.size := by omega
  try dsimp only at hstDr
  obtain ⟨ADr, dDr, rfl, hstDr⟩ := hstDr.form
  have hA11 := ((Below.refl w11.heap.size w11).alloc (Nat.le_refl _) (.cells #[.int .i64 cap0, .slice ADr qsD.length dDr] 25))
  replace hst0 := hst0.keep hA11
  replace hst1 := hst1.keep hA11
  replace kS := kS.keep hA11
  replace kT := kT.keep hA11
  replace hstA := hstA.keep hA11
  replace kAx := kAx.keep hA11
  replace hstAr := hstAr.keep hA11
  replace kArx := kArx.keep hA11
  replace hstB := hstB.keep hA11
  replace kBx := kBx.keep hA11
  replace hstBr := hstBr.keep hA11
  replace kBrx := kBrx.keep hA11
  replace hstC := hstC.keep hA11
  replace kCx := kCx.keep hA11
  replace hstCr := hstCr.keep hA11
  replace kCrx := kCrx.keep hA11
  replace hstD := hstD.keep hA11
  replace kDx := kDx.keep hA11
  replace hstDr := hstDr.keep hA11
  have kDrx := Blk.new_ w11 25 #[.int .i64 cap0, .slice ADr qsD.length dDr] (w11.heap.size) (by simp)
  have hZ11 : Below w.heap.size w _ := hY11.trans (hA11.mono hY11.size)
  go_wp2_with fail
  refine (sA _ _ _ _ _ hstA hstAr).mono ?_
  rintro e w12 ⟨rfl, hb12⟩
  obtain ⟨hc12, hf12⟩ := bcell hb12
  have hz12 := hb12.size
  simp at hz12
  replace hst0 := hst0.keep hb12
  replace hst1 := hst1.keep hb12
  replace kS := kS.keep hb12
  replace kT := kT.keep hb12
  replace hstA := hstA.keep hb12
  replace kAx := kAx.keep hb12
  replace hstAr := hstAr.keep hb12
  replace kArx := kArx.keep hb12
  replace hstB := hstB.keep hb12
  replace kBx := kBx.keep hb12
  replace hstBr := hstBr.keep hb12
  replace kBrx := kBrx.keep hb12
  replace hstC := hstC.keep hb12
  replace kCx := kCx.keep hb12
  replace hstCr := hstCr.keep hb12
  replace kCrx := kCrx.keep hb12
  replace hstD := hstD.keep hb12
  replace kDx := kDx.keep hb12
  replace hstDr := hstDr.keep hb12
  replace kDrx := kDrx.keep hb12
  have hY12 := hZ11.trans (hb12.mono hZ11.size)
  have zkS_12 : w.heap.size < w12.heap.size := by omega
  have zkT_12 : w.heap.size + 1 < w12.heap.size := by omega
  have zkAx_12 : w4.heap.size < w12.heap.size := by omega
  have zkArx_12 : w5.heap.size < w12.heap.size := by omega
  have zkBx_12 : w6.heap.size < w12.heap.size := by omega
  have zkBrx_12 : w7.heap.size < w12.heap.size := by omega
  have zkCx_12 : w8.heap.size < w12.heap.size := by omega
  have zkCrx_12 : w9.heap.size < w12.heap.size := by omega
  have zkDx_12 : w10.heap.size < w12.heap.size := by omega
  have zkDrx_12 : w11.heap.size < w12.heap.size := by omega
  have hZ12 : Below w.heap.size w w12 := hY12
  go_wp2_with fail
  refine (sA _ _ _ _ _ hstB hstBr).mono ?_
  rintro e w13 ⟨rfl, hb13⟩
  obtain ⟨hc13, hf13⟩ := bcell hb13
  have hz13 := hb13.size
  replace hst0 := hst0.keep hb13
  replace hst1 := hst1.keep hb13
  replace kS := kS.keep hb13
  replace kT := kT.keep hb13
  replace hstA := hstA.keep hb13
  replace kAx := kAx.keep hb13
  replace hstAr := hstAr.keep hb13
  replace kArx := kArx.keep hb13
  replace hstB := hstB.keep hb13
  replace kBx := kBx.keep hb13
  replace hstBr := hstBr.keep hb13
  replace kBrx := kBrx.keep hb13
  replace hstC := hstC.keep hb13
  replace kCx := kCx.keep hb13
  replace hstCr := hstCr.keep hb13
  replace kCrx := kCrx.keep hb13
  replace hstD := hstD.keep hb13
  replace kDx := kDx.keep hb13
  replace hstDr := hstDr.keep hb13
  replace kDrx := kDrx.keep hb13
  have hY13 := hZ12.trans (hb13.mono hZ12.size)
  have zkS_13 : w.heap.size < w13.heap.size := by omega
  have zkT_13 : w.heap.size + 1 < w13.heap.size := by omega
  have zkAx_13 : w4.heap.size < w13.heap.size := by omega
  have zkArx_13 : w5.heap.size < w13.heap.size := by omega
  have zkBx_13 : w6.heap.size < w13.heap.size := by omega
  have zkBrx_13 : w7.heap.size < w13.heap.size := by omega
  have zkCx_13 : w8.heap.size < w13.heap.size := by omega
  have zkCrx_13 : w9.heap.size < w13.heap.size := by omega
  have zkDx_13 : w10.heap.size < w13.heap.size := by omega
  have zkDrx_13 : w11.heap.size < w13.heap.size := by omega
  have hZ13 : Below w.heap.size w w13 := hY13
  go_wp2_with fail
  refine (sA _ _ _ _ _ hstC hstCr).mono ?_
  rintro e w14 ⟨rfl, hb14⟩
  obtain ⟨hc14, hf14⟩ := bcell hb14
  have hz14 := hb14.size
  replace hst0 := hst0.keep hb14
  replace hst1 := hst1.keep hb14
  replace kS := kS.keep hb14
  replace kT := kT.keep hb14
  replace hstA := hstA.keep hb14
  replace kAx := kAx.keep hb14
  replace hstAr := hstAr.keep hb14
  replace kArx := kArx.keep hb14
  replace hstB := hstB.keep hb14
  replace kBx := kBx.keep hb14
  replace hstBr := hstBr.keep hb14
  replace kBrx := kBrx.keep hb14
  replace hstC := hstC.keep hb14
  replace kCx := kCx.keep hb14
  replace hstCr := hstCr.keep hb14
  replace kCrx := kCrx.keep hb14
  replace hstD := hstD.keep hb14
  replace kDx := kDx.keep hb14
  replace hstDr := hstDr.keep hb14
  replace kDrx := kDrx.keep hb14
  have hY14 := hZ13.trans (hb14.mono hZ13.size)
  have zkS_14 : w.heap.size < w14.heap.size := by omega
  have zkT_14 : w.heap.size + 1 < w14.heap.size := by omega
  have zkAx_14 : w4.heap.size < w14.heap.size := by omega
  have zkArx_14 : w5.heap.size < w14.heap.size := by omega
  have zkBx_14 : w6.heap.size < w14.heap.size := by omega
  have zkBrx_14 : w7.heap.size < w14.heap.size := by omega
  have zkCx_14 : w8.heap.size < w14.heap.size := by omega
  have zkCrx_14 : w9.heap.size < w14.heap.size := by omega
  have zkDx_14 : w10.heap.size < w14.heap.size := by omega
  have zkDrx_14 : w11.heap.size < w14.heap.size := by omega
  have hZ14 : Below w.heap.size w w14 := hY14
  go_wp2_with fail
  refine (sA _ _ _ _ _ hstD hstDr).mono ?_
  rintro e w15 ⟨rfl, hb15⟩
  obtain ⟨hc15, hf15⟩ := bcell hb15
  have hz15 := hb15.size
  replace hst0 := hst0.keep hb15
  replace hst1 := hst1.keep hb15
  replace kS := kS.keep hb15
  replace kT := kT.keep hb15
  replace hstA := hstA.keep hb15
  replace kAx := kAx.keep hb15
  replace hstAr := hstAr.keep hb15
  replace kArx := kArx.keep hb15
  replace hstB := hstB.keep hb15
  replace kBx := kBx.keep hb15
  replace hstBr := hstBr.keep hb15
  replace kBrx := kBrx.keep hb15
  replace hstC := hstC.keep hb15
  replace kCx := kCx.keep hb15
  replace hstCr := hstCr.keep hb15
  replace kCrx := kCrx.keep hb15
  replace hstD := hstD.keep hb15
  replace kDx := kDx.keep hb15
  replace hstDr := hstDr.keep hb15
  replace kDrx := kDrx.keep hb15
  have hY15 := hZ14.trans (hb15.mono hZ14.size)
  have zkS_15 : w.heap.size < w15.heap.size := by omega
  have zkT_15 : w.heap.size + 1 < w15.heap.size := by omega
  have zkAx_15 : w4.heap.size < w15.heap.size := by omega
  have zkArx_15 : w5.heap.size < w15.heap.size := by omega
  have zkBx_15 : w6.heap.size < w15.heap.size := by omega
  have zkBrx_15 : w7.heap.size < w15.heap.size := by omega
  have zkCx_15 : w8.heap.size < w15.heap.size := by omega
  have zkCrx_15 : w9.heap.size < w15.heap.size := by omega
  have zkDx_15 : w10.heap.size < w15.heap.size := by omega
  have zkDrx_15 : w11.heap.size < w15.heap.size := by omega
  have hZ15 : Below w.heap.size w w15 := hY15
  go_wp2_with fail
  refine (n2 _ _ hst0.sl).mono ?_
  rintro e w16 ⟨rfl, hb16⟩
  obtain ⟨hc16, hf16⟩ := bcell hb16
  have hz16 := hb16.size
  replace hst0 := hst0.keep hb16
  replace hst1 := hst1.keep hb16
  replace kS := kS.keep hb16
  replace kT := kT.keep hb16
  replace hstA := hstA.keep hb16
  replace kAx := kAx.keep hb16
  replace hstAr := hstAr.keep hb16
  replace kArx := kArx.keep hb16
  replace hstB := hstB.keep hb16
  replace kBx := kBx.keep hb16
  replace hstBr := hstBr.keep hb16
  replace kBrx := kBrx.keep hb16
  replace hstC := hstC.keep hb16
  replace kCx := kCx.keep hb16
  replace hstCr := hstCr.keep hb16
  replace kCrx := kCrx.keep hb16
  replace hstD := hstD.keep hb16
  replace kDx := kDx.keep hb16
  replace hstDr := hstDr.keep hb16
  replace kDrx := kDrx.keep hb16
  have hY16 := hZ15.trans (hb16.mono hZ15.size)
  have zkS_16 : w.heap.size < w16.heap.size := by omega
  have zkT_16 : w.heap.size + 1 < w16.heap.size := by omega
  have zkAx_16 : w4.heap.size < w16.heap.size := by omega
  have zkArx_16 : w5.heap.size < w16.heap.size := by omega
  have zkBx_16 : w6.heap.size < w16.heap.size := by omega
  have zkBrx_16 : w7.heap.size < w16.heap.size := by omega
  have zkCx_16 : w8.heap.size < w16.heap.size := by omega
  have zkCrx_16 : w9.heap.size < w16.heap.size := by omega
  have zkDx_16 : w10.heap.size < w16.heap.size := by omega
  have zkDrx_16 : w11.heap.size < w16.heap.size := by omega
  have hZ16 : Below w.heap.size w w16 := hY16
  go_wp2_with fail
  refine (s2 _ _ _ hst0 hst1).mono ?_
  rintro e w17 ⟨rfl, hb17⟩
  obtain ⟨hc17, hf17⟩ := bcell hb17
  have hz17 := hb17.size
  replace hst0 := hst0.keep hb17
  replace hst1 := hst1.keep hb17
  replace kS := kS.keep hb17
  replace kT := kT.keep hb17
  replace hstA := hstA.keep hb17
  replace kAx := kAx.keep hb17
  replace hstAr := hstAr.keep hb17
  replace kArx := kArx.keep hb17
  replace hstB := hstB.keep hb17
  replace kBx := kBx.keep hb17
  replace hstBr := hstBr.keep hb17
  replace kBrx := kBrx.keep hb17
  replace hstC := hstC.keep hb17
  replace kCx := kCx.keep hb17
  replace hstCr := hstCr.keep hb17
  replace kCrx := kCrx.keep hb17
  replace hstD := hstD.keep hb17
  replace kDx := kDx.keep hb17
  replace hstDr := hstDr.keep hb17
  replace kDrx := kDrx.keep hb17
  have hY17 := hZ16.trans (hb17.mono hZ16.size)
  have zkS_17 : w.heap.size < w17.heap.size := by omega
  have zkT_17 : w.heap.size + 1 < w17.heap.size := by omega
  have zkAx_17 : w4.heap.size < w17.heap.size := by omega
  have zkArx_17 : w5.heap.size < w17.heap.size := by omega
  have zkBx_17 : w6.heap.size < w17.heap.size := by omega
  have zkBrx_17 : w7.heap.size < w17.heap.size := by omega
  have zkCx_17 : w8.heap.size < w17.heap.size := by omega
  have zkCrx_17 : w9.heap.size < w17.heap.size := by omega
  have zkDx_17 : w10.heap.size < w17.heap.size := by omega
  have zkDrx_17 : w11.heap.size < w17.heap.size := by omega
  go_wp2_with fail
  have BW := (Below.refl w17.heap.size w17).drew
  have ckS_lt := kS.lt
  have ckS_0 : w17.cell? ⟨w.heap.size, 0, none⟩ = some (.int .i64 cap0) := by rw [kS.cell]; rfl
  have ckS_1 : w17.cell? ⟨w.heap.size, 1, none⟩ = some (.slice A0 ps0.length c0) := by rw [kS.cell]; rfl
  have ckT_lt := kT.lt
  have ckT_0 : w17.cell? ⟨w.heap.size + 1, 0, none⟩ = some (.int .i64 cap1) := by rw [kT.cell]; rfl
  have ckT_1 : w17.cell? ⟨w.heap.size + 1, 1, none⟩ = some (.slice A1 ps1.length c1) := by rw [kT.cell]; rfl
  refine wp_region_held_drew (S := fun w' => w'.cell? ⟨w.heap.size, 0, none⟩ = some (.int .i64 cap0) ∧ w'.cell? ⟨w.heap.size, 1, none⟩ = some (.slice A0 ps0.length c0) ∧ w'.cell? ⟨w.heap.size + 1, 0, none⟩ = some (.int .i64 cap1) ∧ w'.cell? ⟨w.heap.size + 1, 1, none⟩ = some (.slice A1 ps1.length c1)) (by kernel_rfl) ?_ (fun hHeldbr => ?_)
  · exact ⟨(BW.cell (p := ⟨w.heap.size, 0, none⟩) ckS_lt).trans ckS_0, (BW.cell (p := ⟨w.heap.size, 1, none⟩) ckS_lt).trans ckS_1, (BW.cell (p := ⟨w.heap.size + 1, 0, none⟩) ckT_lt).trans ckT_0, (BW.cell (p := ⟨w.heap.size + 1, 1, none⟩) ckT_lt).trans ckT_1⟩
  refine wpAnyH_take (i := 0) (oi := { dst := some 127, op := Op.move (Operand.tmp 34), type := 4, pos := "law.go:44", after := _, guard := none }) (v := ?vbr0) rfl (by kernel_rfl) (by kernel_rfl) (by kernel_rfl) (fun _ _ _ h => h) (Or.inl ⟨by rfl, ?hybr0⟩) (by assumption) ?restbr0
  case hybr0 => (intro w hSw; (try dsimp only at hSw); go_simp <;> with_reducible rfl)
  try simp only [Act.put, List.setIfInBounds_toArray, List.set_cons_zero, List.set_cons_succ]
  refine wpAnyH_take (i := 1) (oi := { dst := some 128, op := Op.move (Operand.tmp 127), type := 4, pos := "law.go:44", after := _, guard := none }) (v := ?vbr1) rfl (by kernel_rfl) (by kernel_rfl) (by kernel_rfl) (fun _ _ _ h => h) (Or.inl ⟨by rfl, ?hybr1⟩) (by assumption) ?restbr1
  case hybr1 => (intro w hSw; (try dsimp only at hSw); go_simp <;> with_reducible rfl)
  try simp only [Act.put, List.setIfInBounds_toArray, List.set_cons_zero, List.set_cons_succ]
  refine wpAnyH_take (i := 2) (oi := { dst := some 129, op := Op.move (Operand.tmp 35), type := 4, pos := "law.go:44", after := _, guard := some (1, true) }) (v := ?vbr2) rfl (by kernel_rfl) (by kernel_rfl) (by kernel_rfl) (fun _ _ _ h => h) (Or.inl ⟨by rfl, ?hybr2⟩) (by assumption) ?restbr2
  case hybr2 => (intro w hSw; (try dsimp only at hSw); go_simp <;> with_reducible rfl)
  try simp only [Act.put, List.setIfInBounds_toArray, List.set_cons_zero, List.set_cons_succ]
  refine wpAnyH_take (i := 3) (oi := { dst := some 130, op := Op.pick (Operand.tmp 128) (Operand.tmp 129) (Operand.const (Value.bool false)), type := 4, pos := "law.go:44", after := _, guard := none }) (v := ?vbr3) rfl (by kernel_rfl) (by kernel_rfl) (by kernel_rfl) (fun _ _ _ h => h) (Or.inl ⟨by rfl, ?hybr3⟩) (by assumption) ?restbr3
  case hybr3 => (intro w hSw; (try dsimp only at hSw); go_simp <;> with_reducible rfl)
  try simp only [Act.put, List.setIfInBounds_toArray, List.set_cons_zero, List.set_cons_succ]
  refine wpAnyH_take (i := 4) (oi := { dst := some 131, op := Op.move (Operand.tmp 130), type := 4, pos := "law.go:44", after := _, guard := none }) (v := ?vbr4) rfl (by kernel_rfl) (by kernel_rfl) (by kernel_rfl) (fun _ _ _ h => h) (Or.inl ⟨by rfl, ?hybr4⟩) (by assumption) ?restbr4
  case hybr4 => (intro w hSw; (try dsimp only at hSw); go_simp <;> with_reducible rfl)
  try simp only [Act.put, List.setIfInBounds_toArray, List.set_cons_zero, List.set_cons_succ]
  refine wpAnyH_take (i := 5) (oi := { dst := some 132, op := Op.move (Operand.tmp 36), type := 4, pos := "law.go:44", after := _, guard := some (4, true) }) (v := ?vbr5) rfl (by kernel_rfl) (by kernel_rfl) (by kernel_rfl) (fun _ _ _ h => h) (Or.inl ⟨by rfl, ?hybr5⟩) (by assumption) ?restbr5
  case hybr5 => (intro w hSw; (try dsimp only at hSw); go_simp <;> with_reducible rfl)
  try simp only [Act.put, List.setIfInBounds_toArray, List.set_cons_zero, List.set_cons_succ]
  refine wpAnyH_take (i := 6) (oi := { dst := some 133, op := Op.pick (Operand.tmp 131) (Operand.tmp 132) (Operand.const (Value.bool false)), type := 4, pos := "law.go:44", after := _, guard := none }) (v := ?vbr6) rfl (by kernel_rfl) (by kernel_rfl) (by kernel_rfl) (fun _ _ _ h => h) (Or.inl ⟨by rfl, ?hybr6⟩) (by assumption) ?restbr6
  case hybr6 => (intro w hSw; (try dsimp only at hSw); go_simp <;> with_reducible rfl)
  try simp only [Act.put, List.setIfInBounds_toArray, List.set_cons_zero, List.set_cons_succ]
  refine wpAnyH_take (i := 7) (oi := { dst := some 134, op := Op.move (Operand.tmp 133), type := 4, pos := "law.go:44", after := _, guard := none }) (v := ?vbr7) rfl (by kernel_rfl) (by kernel_rfl) (by kernel_rfl) (fun _ _ _ h => h) (Or.inl ⟨by rfl, ?hybr7⟩) (by assumption) ?restbr7
  case hybr7 => (intro w hSw; (try dsimp only at hSw); go_simp <;> with_reducible rfl)
  try simp only [Act.put, List.setIfInBounds_toArray, List.set_cons_zero, List.set_cons_succ]
  refine wpAnyH_take (i := 8) (oi := { dst := some 135, op := Op.move (Operand.tmp 37), type := 4, pos := "law.go:44", after := _, guard := some (7, true) }) (v := ?vbr8) rfl (by kernel_rfl) (by kernel_rfl) (by kernel_rfl) (fun _ _ _ h => h) (Or.inl ⟨by rfl, ?hybr8⟩) (by assumption) ?restbr8
  case hybr8 => (intro w hSw; (try dsimp only at hSw); go_simp <;> with_reducible rfl)
  try simp only [Act.put, List.setIfInBounds_toArray, List.set_cons_zero, List.set_cons_succ]
  refine wpAnyH_take (i := 9) (oi := { dst := some 136, op := Op.pick (Operand.tmp 134) (Operand.tmp 135) (Operand.const (Value.bool false)), type := 4, pos := "law.go:44", after := _, guard := none }) (v := ?vbr9) rfl (by kernel_rfl) (by kernel_rfl) (by kernel_rfl) (fun _ _ _ h => h) (Or.inl ⟨by rfl, ?hybr9⟩) (by assumption) ?restbr9
  case hybr9 => (intro w hSw; (try dsimp only at hSw); go_simp <;> with_reducible rfl)
  try simp only [Act.put, List.setIfInBounds_toArray, List.set_cons_zero, List.set_cons_succ]
  refine wpAnyH_take (i := 10) (oi := { dst := some 137, op := Op.move (Operand.tmp 136), type := 4, pos := "law.go:44", after := _, guard := none }) (v := ?vbr10) rfl (by kernel_rfl) (by kernel_rfl) (by kernel_rfl) (fun _ _ _ h => h) (Or.inl ⟨by rfl, ?hybr10⟩) (by assumption) ?restbr10
  case hybr10 => (intro w hSw; (try dsimp only at hSw); go_simp <;> with_reducible rfl)
  try simp only [Act.put, List.setIfInBounds_toArray, List.set_cons_zero, List.set_cons_succ]
  refine wpAnyH_take (i := 11) (oi := { dst := some 138, op := Op.move (Operand.tmp 15), type := 3, pos := "law.go:44", after := _, guard := some (10, true) }) (v := ?vbr11) rfl (by kernel_rfl) (by kernel_rfl) (by kernel_rfl) (fun _ _ _ h => h) (Or.inl ⟨by rfl, ?hybr11⟩) (by assumption) ?restbr11
  case hybr11 => (intro w hSw; (try dsimp only at hSw); go_simp <;> with_reducible rfl)
  try simp only [Act.put, List.setIfInBounds_toArray, List.set_cons_zero, List.set_cons_succ]
  refine wpAnyH_take (i := 12) (oi := { dst := some 139, op := Op.move (Operand.tmp 18), type := 3, pos := "law.go:44", after := _, guard := some (10, true) }) (v := ?vbr12) rfl (by kernel_rfl) (by kernel_rfl) (by kernel_rfl) (fun _ _ _ h => h) (Or.inl ⟨by rfl, ?hybr12⟩) (by assumption) ?restbr12
  case hybr12 => (intro w hSw; (try dsimp only at hSw); go_simp <;> with_reducible rfl)
  try simp only [Act.put, List.setIfInBounds_toArray, List.set_cons_zero, List.set_cons_succ]
  refine wpAnyH_take (i := 13) (oi := { dst := some 140, op := Op.binOp BinOp.eql 3 (Operand.tmp 138) (Operand.tmp 139) 3, type := 4, pos := "law.go:44", after := _, guard := some (10, true) }) (v := ?vbr13) rfl (by kernel_rfl) (by kernel_rfl) (by kernel_rfl) (fun _ _ _ h => h) (Or.inl ⟨by rfl, ?hybr13⟩) (by assumption) ?restbr13
  case hybr13 => (intro w hSw; (try dsimp only at hSw); go_simp <;> with_reducible rfl)
  try simp only [Act.put, List.setIfInBounds_toArray, List.set_cons_zero, List.set_cons_succ]
  refine wpAnyH_take (i := 14) (oi := { dst := some 141, op := Op.pick (Operand.tmp 137) (Operand.tmp 140) (Operand.const (Value.bool false)), type := 4, pos := "law.go:44", after := _, guard := none }) (v := ?vbr14) rfl (by kernel_rfl) (by kernel_rfl) (by kernel_rfl) (fun _ _ _ h => h) (Or.inl ⟨by rfl, ?hybr14⟩) (by assumption) ?restbr14
  case hybr14 => (intro w hSw; (try dsimp only at hSw); go_simp <;> with_reducible rfl)
  try simp only [Act.put, List.setIfInBounds_toArray, List.set_cons_zero, List.set_cons_succ]
  refine wpAnyH_take (i := 15) (oi := { dst := some 142, op := Op.move (Operand.tmp 141), type := 4, pos := "law.go:44", after := _, guard := none }) (v := ?vbr15) rfl (by kernel_rfl) (by kernel_rfl) (by kernel_rfl) (fun _ _ _ h => h) (Or.inl ⟨by rfl, ?hybr15⟩) (by assumption) ?restbr15
  case hybr15 => (intro w hSw; (try dsimp only at hSw); go_simp <;> with_reducible rfl)
  try simp only [Act.put, List.setIfInBounds_toArray, List.set_cons_zero, List.set_cons_succ]
  refine wpAnyH_take (i := 16) (oi := { dst := some 143, op := Op.move (Operand.tmp 16), type := 28, pos := "law.go:44", after := _, guard := some (15, true) }) (v := ?vbr16) rfl (by kernel_rfl) (by kernel_rfl) (by kernel_rfl) (fun _ _ _ h => h) (Or.inl ⟨by rfl, ?hybr16⟩) (by assumption) ?restbr16
  case hybr16 => (intro w hSw; (try dsimp only at hSw); go_simp <;> with_reducible rfl)
  try simp only [Act.put, List.setIfInBounds_toArray, List.set_cons_zero, List.set_cons_succ]
  refine wpAnyH_take (i := 17) (oi := { dst := some 144, op := Op.move (Operand.tmp 19), type := 28, pos := "law.go:44", after := _, guard := some (15, true) }) (v := ?vbr17) rfl (by kernel_rfl) (by kernel_rfl) (by kernel_rfl) (fun _ _ _ h => h) (Or.inl ⟨by rfl, ?hybr17⟩) (by assumption) ?restbr17
  case hybr17 => (intro w hSw; (try dsimp only at hSw); go_simp <;> with_reducible rfl)
  try simp only [Act.put, List.setIfInBounds_toArray, List.set_cons_zero, List.set_cons_succ]
  refine wpAnyH_take (i := 18) (oi := { dst := some 145, op := Op.binOp BinOp.eql 28 (Operand.tmp 143) (Operand.tmp 144) 28, type := 4, pos := "law.go:44", after := _, guard := some (15, true) }) (v := ?vbr18) rfl (by kernel_rfl) (by kernel_rfl) (by kernel_rfl) (fun _ _ _ h => h) (Or.inl ⟨by rfl, ?hybr18⟩) (by assumption) ?restbr18
  case hybr18 => (intro w hSw; (try dsimp only at hSw); go_simp <;> with_reducible rfl)
  try simp only [Act.put, List.setIfInBounds_toArray, List.set_cons_zero, List.set_cons_succ]
  refine wpAnyH_take (i := 19) (oi := { dst := some 146, op := Op.pick (Operand.tmp 142) (Operand.tmp 145) (Operand.const (Value.bool false)), type := 4, pos := "law.go:44", after := _, guard := none }) (v := ?vbr19) rfl (by kernel_rfl) (by kernel_rfl) (by kernel_rfl) (fun _ _ _ h => h) (Or.inl ⟨by rfl, ?hybr19⟩) (by assumption) ?restbr19
  case hybr19 => (intro w hSw; (try dsimp only at hSw); go_simp <;> with_reducible rfl)
  try simp only [Act.put, List.setIfInBounds_toArray, List.set_cons_zero, List.set_cons_succ]
  refine wpAnyH_take (i := 20) (oi := { dst := some 147, op := Op.move (Operand.tmp 146), type := 4, pos := "law.go:44", after := _, guard := none }) (v := ?vbr20) rfl (by kernel_rfl) (by kernel_rfl) (by kernel_rfl) (fun _ _ _ h => h) (Or.inl ⟨by rfl, ?hybr20⟩) (by assumption) ?restbr20
  case hybr20 => (intro w hSw; (try dsimp only at hSw); go_simp <;> with_reducible rfl)
  try simp only [Act.put, List.setIfInBounds_toArray, List.set_cons_zero, List.set_cons_succ]
  refine wpAnyH_take (i := 21) (oi := { dst := some 148, op := Op.move (Operand.tmp 21), type := 28, pos := "law.go:44", after := _, guard := some (20, true) }) (v := ?vbr21) rfl (by kernel_rfl) (by kernel_rfl) (by kernel_rfl) (fun _ _ _ h => h) (Or.inl ⟨by rfl, ?hybr21⟩) (by assumption) ?restbr21
  case hybr21 => (intro w hSw; (try dsimp only at hSw); go_simp <;> with_reducible rfl)
  try simp only [Act.put, List.setIfInBounds_toArray, List.set_cons_zero, List.set_cons_succ]
  refine wpAnyH_take (i := 22) (oi := { dst := some 149, op := Op.move (Operand.tmp 23), type := 28, pos := "law.go:44", after := _, guard := some (20, true) }) (v := ?vbr22) rfl (by kernel_rfl) (by kernel_rfl) (by kernel_rfl) (fun _ _ _ h => h) (Or.inl ⟨by rfl, ?hybr22⟩) (by assumption) ?restbr22
  case hybr22 => (intro w hSw; (try dsimp only at hSw); go_simp <;> with_reducible rfl)
  try simp only [Act.put, List.setIfInBounds_toArray, List.set_cons_zero, List.set_cons_succ]
  refine wpAnyH_take (i := 23) (oi := { dst := some 150, op := Op.binOp BinOp.eql 28 (Operand.tmp 148) (Operand.tmp 149) 28, type := 4, pos := "law.go:44", after := _, guard := some (20, true) }) (v := ?vbr23) rfl (by kernel_rfl) (by kernel_rfl) (by kernel_rfl) (fun _ _ _ h => h) (Or.inl ⟨by rfl, ?hybr23⟩) (by assumption) ?restbr23
  case hybr23 => (intro w hSw; (try dsimp only at hSw); go_simp <;> with_reducible rfl)
  try simp only [Act.put, List.setIfInBounds_toArray, List.set_cons_zero, List.set_cons_succ]
  refine wpAnyH_take (i := 24) (oi := { dst := some 151, op := Op.pick (Operand.tmp 147) (Operand.tmp 150) (Operand.const (Value.bool false)), type := 4, pos := "law.go:44", after := _, guard := none }) (v := ?vbr24) rfl (by kernel_rfl) (by kernel_rfl) (by kernel_rfl) (fun _ _ _ h => h) (Or.inl ⟨by rfl, ?hybr24⟩) (by assumption) ?restbr24
  case hybr24 => (intro w hSw; (try dsimp only at hSw); go_simp <;> with_reducible rfl)
  try simp only [Act.put, List.setIfInBounds_toArray, List.set_cons_zero, List.set_cons_succ]
  refine wpAnyH_take (i := 25) (oi := { dst := some 152, op := Op.move (Operand.tmp 151), type := 4, pos := "law.go:44", after := _, guard := none }) (v := ?vbr25) rfl (by kernel_rfl) (by kernel_rfl) (by kernel_rfl) (fun _ _ _ h => h) (Or.inl ⟨by rfl, ?hybr25⟩) (by assumption) ?restbr25
  case hybr25 => (intro w hSw; (try dsimp only at hSw); go_simp <;> with_reducible rfl)
  try simp only [Act.put, List.setIfInBounds_toArray, List.set_cons_zero, List.set_cons_succ]
  refine wpAnyH_take (i := 26) (oi := { dst := some 153, op := Op.move (Operand.tmp 25), type := 28, pos := "law.go:44", after := _, guard := some (25, true) }) (v := ?vbr26) rfl (by kernel_rfl) (by kernel_rfl) (by kernel_rfl) (fun _ _ _ h => h) (Or.inl ⟨by rfl, ?hybr26⟩) (by assumption) ?restbr26
  case hybr26 => (intro w hSw; (try dsimp only at hSw); go_simp <;> with_reducible rfl)
  try simp only [Act.put, List.setIfInBounds_toArray, List.set_cons_zero, List.set_cons_succ]
  refine wpAnyH_take (i := 27) (oi := { dst := some 154, op := Op.move (Operand.tmp 27), type := 28, pos := "law.go:44", after := _, guard := some (25, true) }) (v := ?vbr27) rfl (by kernel_rfl) (by kernel_rfl) (by kernel_rfl) (fun _ _ _ h => h) (Or.inl ⟨by rfl, ?hybr27⟩) (by assumption) ?restbr27
  case hybr27 => (intro w hSw; (try dsimp only at hSw); go_simp <;> with_reducible rfl)
  try simp only [Act.put, List.setIfInBounds_toArray, List.set_cons_zero, List.set_cons_succ]
  refine wpAnyH_take (i := 28) (oi := { dst := some 155, op := Op.binOp BinOp.eql 28 (Operand.tmp 153) (Operand.tmp 154) 28, type := 4, pos := "law.go:44", after := _, guard := some (25, true) }) (v := ?vbr28) rfl (by kernel_rfl) (by kernel_rfl) (by kernel_rfl) (fun _ _ _ h => h) (Or.inl ⟨by rfl, ?hybr28⟩) (by assumption) ?restbr28
  case hybr28 => (intro w hSw; (try dsimp only at hSw); go_simp <;> with_reducible rfl)
  try simp only [Act.put, List.setIfInBounds_toArray, List.set_cons_zero, List.set_cons_succ]
  refine wpAnyH_take (i := 29) (oi := { dst := some 156, op := Op.pick (Operand.tmp 152) (Operand.tmp 155) (Operand.const (Value.bool false)), type := 4, pos := "law.go:44", after := _, guard := none }) (v := ?vbr29) rfl (by kernel_rfl) (by kernel_rfl) (by kernel_rfl) (fun _ _ _ h => h) (Or.inl ⟨by rfl, ?hybr29⟩) (by assumption) ?restbr29
  case hybr29 => (intro w hSw; (try dsimp only at hSw); go_simp <;> with_reducible rfl)
  try simp only [Act.put, List.setIfInBounds_toArray, List.set_cons_zero, List.set_cons_succ]
  refine wpAnyH_take (i := 30) (oi := { dst := some 157, op := Op.move (Operand.tmp 156), type := 4, pos := "law.go:44", after := _, guard := none }) (v := ?vbr30) rfl (by kernel_rfl) (by kernel_rfl) (by kernel_rfl) (fun _ _ _ h => h) (Or.inl ⟨by rfl, ?hybr30⟩) (by assumption) ?restbr30
  case hybr30 => (intro w hSw; (try dsimp only at hSw); go_simp <;> with_reducible rfl)
  try simp only [Act.put, List.setIfInBounds_toArray, List.set_cons_zero, List.set_cons_succ]
  refine wpAnyH_take (i := 31) (oi := { dst := some 158, op := Op.move (Operand.tmp 29), type := 3, pos := "law.go:44", after := _, guard := some (30, true) }) (v := ?vbr31) rfl (by kernel_rfl) (by kernel_rfl) (by kernel_rfl) (fun _ _ _ h => h) (Or.inl ⟨by rfl, ?hybr31⟩) (by assumption) ?restbr31
  case hybr31 => (intro w hSw; (try dsimp only at hSw); go_simp <;> with_reducible rfl)
  try simp only [Act.put, List.setIfInBounds_toArray, List.set_cons_zero, List.set_cons_succ]
  refine wpAnyH_take (i := 32) (oi := { dst := some 159, op := Op.move (Operand.tmp 32), type := 3, pos := "law.go:44", after := _, guard := some (30, true) }) (v := ?vbr32) rfl (by kernel_rfl) (by kernel_rfl) (by kernel_rfl) (fun _ _ _ h => h) (Or.inl ⟨by rfl, ?hybr32⟩) (by assumption) ?restbr32
  case hybr32 => (intro w hSw; (try dsimp only at hSw); go_simp <;> with_reducible rfl)
  try simp only [Act.put, List.setIfInBounds_toArray, List.set_cons_zero, List.set_cons_succ]
  refine wpAnyH_take (i := 33) (oi := { dst := some 160, op := Op.binOp BinOp.eql 3 (Operand.tmp 158) (Operand.tmp 159) 3, type := 4, pos := "law.go:44", after := _, guard := some (30, true) }) (v := ?vbr33) rfl (by kernel_rfl) (by kernel_rfl) (by kernel_rfl) (fun _ _ _ h => h) (Or.inl ⟨by rfl, ?hybr33⟩) (by assumption) ?restbr33
  case hybr33 => (intro w hSw; (try dsimp only at hSw); go_simp <;> with_reducible rfl)
  try simp only [Act.put, List.setIfInBounds_toArray, List.set_cons_zero, List.set_cons_succ]
  refine wpAnyH_take (i := 34) (oi := { dst := some 161, op := Op.pick (Operand.tmp 157) (Operand.tmp 160) (Operand.const (Value.bool false)), type := 4, pos := "law.go:44", after := _, guard := none }) (v := ?vbr34) rfl (by kernel_rfl) (by kernel_rfl) (by kernel_rfl) (fun _ _ _ h => h) (Or.inl ⟨by rfl, ?hybr34⟩) (by assumption) ?restbr34
  case hybr34 => (intro w hSw; (try dsimp only at hSw); go_simp <;> with_reducible rfl)
  try simp only [Act.put, List.setIfInBounds_toArray, List.set_cons_zero, List.set_cons_succ]
  refine wpAnyH_take (i := 35) (oi := { dst := some 162, op := Op.move (Operand.tmp 161), type := 4, pos := "law.go:44", after := _, guard := none }) (v := ?vbr35) rfl (by kernel_rfl) (by kernel_rfl) (by kernel_rfl) (fun _ _ _ h => h) (Or.inl ⟨by rfl, ?hybr35⟩) (by assumption) ?restbr35
  case hybr35 => (intro w hSw; (try dsimp only at hSw); go_simp <;> with_reducible rfl)
  try simp only [Act.put, List.setIfInBounds_toArray, List.set_cons_zero, List.set_cons_succ]
  refine wpAnyH_take (i := 36) (oi := { dst := some 163, op := Op.move (Operand.tmp 30), type := 28, pos := "law.go:44", after := _, guard := some (35, true) }) (v := ?vbr36) rfl (by kernel_rfl) (by kernel_rfl) (by kernel_rfl) (fun _ _ _ h => h) (Or.inl ⟨by rfl, ?hybr36⟩) (by assumption) ?restbr36
  case hybr36 => (intro w hSw; (try dsimp only at hSw); go_simp <;> with_reducible rfl)
  try simp only [Act.put, List.setIfInBounds_toArray, List.set_cons_zero, List.set_cons_succ]
  refine wpAnyH_take (i := 37) (oi := { dst := some 164, op := Op.move (Operand.tmp 33), type := 28, pos := "law.go:44", after := _, guard := some (35, true) }) (v := ?vbr37) rfl (by kernel_rfl) (by kernel_rfl) (by kernel_rfl) (fun _ _ _ h => h) (Or.inl ⟨by rfl, ?hybr37⟩) (by assumption) ?restbr37
  case hybr37 => (intro w hSw; (try dsimp only at hSw); go_simp <;> with_reducible rfl)
  try simp only [Act.put, List.setIfInBounds_toArray, List.set_cons_zero, List.set_cons_succ]
  refine wpAnyH_take (i := 38) (oi := { dst := some 165, op := Op.binOp BinOp.eql 28 (Operand.tmp 163) (Operand.tmp 164) 28, type := 4, pos := "law.go:44", after := _, guard := some (35, true) }) (v := ?vbr38) rfl (by kernel_rfl) (by kernel_rfl) (by kernel_rfl) (fun _ _ _ h => h) (Or.inl ⟨by rfl, ?hybr38⟩) (by assumption) ?restbr38
  case hybr38 => (intro w hSw; (try dsimp only at hSw); go_simp <;> with_reducible rfl)
  try simp only [Act.put, List.setIfInBounds_toArray, List.set_cons_zero, List.set_cons_succ]
  refine wpAnyH_take (i := 39) (oi := { dst := some 166, op := Op.pick (Operand.tmp 162) (Operand.tmp 165) (Operand.const (Value.bool false)), type := 4, pos := "law.go:44", after := _, guard := none }) (v := ?vbr39) rfl (by kernel_rfl) (by kernel_rfl) (by kernel_rfl) (fun _ _ _ h => h) (Or.inl ⟨by rfl, ?hybr39⟩) (by assumption) ?restbr39
  case hybr39 => (intro w hSw; (try dsimp only at hSw); go_simp <;> with_reducible rfl)
  try simp only [Act.put, List.setIfInBounds_toArray, List.set_cons_zero, List.set_cons_succ]
  refine wpAnyH_take (i := 40) (oi := { dst := some 167, op := Op.move (Operand.tmp 166), type := 4, pos := "law.go:44", after := _, guard := none }) (v := ?vbr40) rfl (by kernel_rfl) (by kernel_rfl) (by kernel_rfl) (fun _ _ _ h => h) (Or.inl ⟨by rfl, ?hybr40⟩) (by assumption) ?restbr40
  case hybr40 => (intro w hSw; (try dsimp only at hSw); go_simp <;> with_reducible rfl)
  try simp only [Act.put, List.setIfInBounds_toArray, List.set_cons_zero, List.set_cons_succ]
  refine wpAnyH_take (i := 41) (oi := { dst := some 168, op := Op.load 25 (Operand.tmp 5), type := 25, pos := "law.go:44", after := _, guard := some (40, true) }) (v := ?vbr41) rfl (by kernel_rfl) (by kernel_rfl) (by kernel_rfl) (fun _ _ _ h => h) (Or.inl ⟨by rfl, ?hybr41⟩) (by assumption) ?restbr41
  case hybr41 => (intro w hSw; (try dsimp only at hSw); go_simp <;> with_reducible rfl)
  try simp only [Act.put, List.setIfInBounds_toArray, List.set_cons_zero, List.set_cons_succ]
  refine wpAnyH_take (i := 43) (oi := { dst := some 170, op := Op.move (Operand.tmp 38), type := 4, pos := "law.go:44", after := _, guard := some (40, true) }) (v := ?vbr43) rfl (by kernel_rfl) (by kernel_rfl) (by kernel_rfl) (fun _ _ _ h => h) (Or.inl ⟨by rfl, ?hybr43⟩) (by assumption) ?restbr43
  case hybr43 => (intro w hSw; (try dsimp only at hSw); go_simp <;> with_reducible rfl)
  try simp only [Act.put, List.setIfInBounds_toArray, List.set_cons_zero, List.set_cons_succ]
  refine wpAnyH_ready (rs := [42]) (by kernel_rfl) (by simp) ?_
  refine AllReadyH.cons (o := { dst := some 169, op := Op.call { callee := Callee.value (Operand.func 14), args := #[Operand.tmp 168], argTypes := #[25] }, type := 4, pos := "law.go:44", after := _, guard := some (40, true) }) rfl (fun K hK => ?_) AllReadyH.nil
  go_simp
  refine (n1 _ _ (hst0.keep BW).sl).mono ?_
  rintro e xBX1 ⟨rfl, hxBX1⟩
  have BX1 := BW.trans (hxBX1.mono BW.size)
  try go_wp2_with fail
  refine hK.out _ _ ?_ (fun hHeldbr42 => ?_)
  · exact ⟨(BX1.cell (p := ⟨w.heap.size, 0, none⟩) ckS_lt).trans ckS_0, (BX1.cell (p := ⟨w.heap.size, 1, none⟩) ckS_lt).trans ckS_1, (BX1.cell (p := ⟨w.heap.size + 1, 0, none⟩) ckT_lt).trans ckT_0, (BX1.cell (p := ⟨w.heap.size + 1, 1, none⟩) ckT_lt).trans ckT_1⟩
  clear hK K hHeldbr
  try simp only [Act.put, List.setIfInBounds_toArray, List.set_cons_zero, List.set_cons_succ]
  refine wpAnyH_take (i := 44) (oi := { dst := some 171, op := Op.binOp BinOp.eql 4 (Operand.tmp 169) (Operand.tmp 170) 4, type := 4, pos := "law.go:44", after := _, guard := some (40, true) }) (v := ?vbr44) rfl (by kernel_rfl) (by kernel_rfl) (by kernel_rfl) (fun _ _ _ h => h) (Or.inl ⟨by rfl, ?hybr44⟩) (by assumption) ?restbr44
  case hybr44 => (intro w hSw; (try dsimp only at hSw); go_simp <;> with_reducible rfl)
  try simp only [Act.put, List.setIfInBounds_toArray, List.set_cons_zero, List.set_cons_succ]
  refine wpAnyH_take (i := 45) (oi := { dst := some 172, op := Op.pick (Operand.tmp 167) (Operand.tmp 171) (Operand.const (Value.bool false)), type := 4, pos := "law.go:44", after := _, guard := none }) (v := ?vbr45) rfl (by kernel_rfl) (by kernel_rfl) (by kernel_rfl) (fun _ _ _ h => h) (Or.inl ⟨by rfl, ?hybr45⟩) (by assumption) ?restbr45
  case hybr45 => (intro w hSw; (try dsimp only at hSw); go_simp <;> with_reducible rfl)
  try simp only [Act.put, List.setIfInBounds_toArray, List.set_cons_zero, List.set_cons_succ]
  refine wpAnyH_take (i := 46) (oi := { dst := some 173, op := Op.move (Operand.tmp 172), type := 4, pos := "law.go:44", after := _, guard := none }) (v := ?vbr46) rfl (by kernel_rfl) (by kernel_rfl) (by kernel_rfl) (fun _ _ _ h => h) (Or.inl ⟨by rfl, ?hybr46⟩) (by assumption) ?restbr46
  case hybr46 => (intro w hSw; (try dsimp only at hSw); go_simp <;> with_reducible rfl)
  try simp only [Act.put, List.setIfInBounds_toArray, List.set_cons_zero, List.set_cons_succ]
  refine wpAnyH_take (i := 47) (oi := { dst := some 174, op := Op.load 25 (Operand.tmp 5), type := 25, pos := "law.go:44", after := _, guard := some (46, true) }) (v := ?vbr47) rfl (by kernel_rfl) (by kernel_rfl) (by kernel_rfl) (fun _ _ _ h => h) (Or.inl ⟨by rfl, ?hybr47⟩) (by assumption) ?restbr47
  case hybr47 => (intro w hSw; (try dsimp only at hSw); go_simp <;> with_reducible rfl)
  try simp only [Act.put, List.setIfInBounds_toArray, List.set_cons_zero, List.set_cons_succ]
  refine wpAnyH_take (i := 48) (oi := { dst := some 175, op := Op.load 25 (Operand.tmp 6), type := 25, pos := "law.go:44", after := _, guard := some (46, true) }) (v := ?vbr48) rfl (by kernel_rfl) (by kernel_rfl) (by kernel_rfl) (fun _ _ _ h => h) (Or.inl ⟨by rfl, ?hybr48⟩) (by assumption) ?restbr48
  case hybr48 => (intro w hSw; (try dsimp only at hSw); go_simp <;> with_reducible rfl)
  try simp only [Act.put, List.setIfInBounds_toArray, List.set_cons_zero, List.set_cons_succ]
  refine wpAnyH_take (i := 50) (oi := { dst := some 177, op := Op.move (Operand.tmp 39), type := 4, pos := "law.go:44", after := _, guard := some (46, true) }) (v := ?vbr50) rfl (by kernel_rfl) (by kernel_rfl) (by kernel_rfl) (fun _ _ _ h => h) (Or.inl ⟨by rfl, ?hybr50⟩) (by assumption) ?restbr50
  case hybr50 => (intro w hSw; (try dsimp only at hSw); go_simp <;> with_reducible rfl)
  try simp only [Act.put, List.setIfInBounds_toArray, List.set_cons_zero, List.set_cons_succ]
  refine wpAnyH_ready (rs := [49]) (by kernel_rfl) (by simp) ?_
  refine AllReadyH.cons (o := { dst := some 176, op := Op.call { callee := Callee.value (Operand.func 25), args := #[Operand.tmp 174, Operand.tmp 175], argTypes := #[25, 25] }, type := 4, pos := "law.go:44", after := _, guard := some (46, true) }) rfl (fun K hK => ?_) AllReadyH.nil
  go_simp
  refine (s1 _ _ _ (hst0.keep BX1) (hst1.keep BX1)).mono ?_
  rintro e xBX2 ⟨rfl, hxBX2⟩
  have BX2 := BX1.trans (hxBX2.mono BX1.size)
  try go_wp2_with fail
  refine hK.out _ _ ?_ (fun hHeldbr49 => ?_)
  · exact ⟨(BX2.cell (p := ⟨w.heap.size, 0, none⟩) ckS_lt).trans ckS_0, (BX2.cell (p := ⟨w.heap.size, 1, none⟩) ckS_lt).trans ckS_1, (BX2.cell (p := ⟨w.heap.size + 1, 0, none⟩) ckT_lt).trans ckT_0, (BX2.cell (p := ⟨w.heap.size + 1, 1, none⟩) ckT_lt).trans ckT_1⟩
  clear hK K hHeldbr42
  try simp only [Act.put, List.setIfInBounds_toArray, List.set_cons_zero, List.set_cons_succ]
  refine wpAnyH_take (i := 51) (oi := { dst := some 178, op := Op.binOp BinOp.eql 4 (Operand.tmp 176) (Operand.tmp 177) 4, type := 4, pos := "law.go:44", after := _, guard := some (46, true) }) (v := ?vbr51) rfl (by kernel_rfl) (by kernel_rfl) (by kernel_rfl) (fun _ _ _ h => h) (Or.inl ⟨by rfl, ?hybr51⟩) (by assumption) ?restbr51
  case hybr51 => (intro w hSw; (try dsimp only at hSw); go_simp <;> with_reducible rfl)
  try simp only [Act.put, List.setIfInBounds_toArray, List.set_cons_zero, List.set_cons_succ]
  refine wpAnyH_take (i := 52) (oi := { dst := some 179, op := Op.pick (Operand.tmp 173) (Operand.tmp 178) (Operand.const (Value.bool false)), type := 4, pos := "law.go:44", after := _, guard := none }) (v := ?vbr52) rfl (by kernel_rfl) (by kernel_rfl) (by kernel_rfl) (fun _ _ _ h => h) (Or.inl ⟨by rfl, ?hybr52⟩) (by assumption) ?restbr52
  case hybr52 => (intro w hSw; (try dsimp only at hSw); go_simp <;> with_reducible rfl)
  try simp only [Act.put, List.setIfInBounds_toArray, List.set_cons_zero, List.set_cons_succ]
  refine wpAnyH_take (i := 53) (oi := { dst := some 180, op := Op.move (Operand.tmp 179), type := 4, pos := "law.go:44", after := _, guard := none }) (v := ?vbr53) rfl (by kernel_rfl) (by kernel_rfl) (by kernel_rfl) (fun _ _ _ h => h) (Or.inl ⟨by rfl, ?hybr53⟩) (by assumption) ?restbr53
  case hybr53 => (intro w hSw; (try dsimp only at hSw); go_simp <;> with_reducible rfl)
  try simp only [Act.put, List.setIfInBounds_toArray, List.set_cons_zero, List.set_cons_succ]
  refine wpAnyH_take (i := 54) (oi := { dst := some 181, op := Op.load 25 (Operand.tmp 5), type := 25, pos := "law.go:44", after := _, guard := some (53, true) }) (v := ?vbr54) rfl (by kernel_rfl) (by kernel_rfl) (by kernel_rfl) (fun _ _ _ h => h) (Or.inl ⟨by rfl, ?hybr54⟩) (by assumption) ?restbr54
  case hybr54 => (intro w hSw; (try dsimp only at hSw); go_simp <;> with_reducible rfl)
  try simp only [Act.put, List.setIfInBounds_toArray, List.set_cons_zero, List.set_cons_succ]
  refine wpAnyH_take (i := 56) (oi := { dst := some 183, op := Op.load 25 (Operand.tmp 5), type := 25, pos := "law.go:44", after := _, guard := some (53, true) }) (v := ?vbr56) rfl (by kernel_rfl) (by kernel_rfl) (by kernel_rfl) (fun _ _ _ h => h) (Or.inl ⟨by rfl, ?hybr56⟩) (by assumption) ?restbr56
  case hybr56 => (intro w hSw; (try dsimp only at hSw); go_simp <;> with_reducible rfl)
  try simp only [Act.put, List.setIfInBounds_toArray, List.set_cons_zero, List.set_cons_succ]
  refine wpAnyH_ready (rs := [55]) (by kernel_rfl) (by simp) ?_
  refine AllReadyH.cons (o := { dst := some 182, op := Op.call { callee := Callee.value (Operand.func 13), args := #[Operand.tmp 181], argTypes := #[25] }, type := 3, pos := "law.go:44", after := _, guard := some (53, true) }) rfl (fun K hK => ?_) AllReadyH.nil
  go_simp
  refine (u1 _ _ (hst0.keep BX2)).mono ?_
  rintro e xBX3 ⟨rfl, hxBX3⟩
  have BX3 := BX2.trans (hxBX3.mono BX2.size)
  try go_wp2_with fail
  refine hK.out _ _ ?_ (fun hHeldbr55 => ?_)
  · exact ⟨(BX3.cell (p := ⟨w.heap.size, 0, none⟩) ckS_lt).trans ckS_0, (BX3.cell (p := ⟨w.heap.size, 1, none⟩) ckS_lt).trans ckS_1, (BX3.cell (p := ⟨w.heap.size + 1, 0, none⟩) ckT_lt).trans ckT_0, (BX3.cell (p := ⟨w.heap.size + 1, 1, none⟩) ckT_lt).trans ckT_1⟩
  clear hK K hHeldbr49
  try simp only [Act.put, List.setIfInBounds_toArray, List.set_cons_zero, List.set_cons_succ]
  refine wpAnyH_ready (rs := [57]) (by kernel_rfl) (by simp) ?_
  refine AllReadyH.cons (o := { dst := some 184, op := Op.call { callee := Callee.value (Operand.func 26), args := #[Operand.tmp 183], argTypes := #[25] }, type := 3, pos := "law.go:44", after := _, guard := some (53, true) }) rfl (fun K hK => ?_) AllReadyH.nil
  go_simp
  refine (u2 _ _ (hst0.keep BX3)).mono ?_
  rintro e xBX4 ⟨rfl, hxBX4⟩
  have BX4 := BX3.trans (hxBX4.mono BX3.size)
  try go_wp2_with fail
  refine hK.out _ _ ?_ (fun hHeldbr57 => ?_)
  · exact ⟨(BX4.cell (p := ⟨w.heap.size, 0, none⟩) ckS_lt).trans ckS_0, (BX4.cell (p := ⟨w.heap.size, 1, none⟩) ckS_lt).trans ckS_1, (BX4.cell (p := ⟨w.heap.size + 1, 0, none⟩) ckT_lt).trans ckT_0, (BX4.cell (p := ⟨w.heap.size + 1, 1, none⟩) ckT_lt).trans ckT_1⟩
  clear hK K hHeldbr55
  try simp only [Act.put, List.setIfInBounds_toArray, List.set_cons_zero, List.set_cons_succ]
  refine wpAnyH_take (i := 58) (oi := { dst := some 185, op := Op.binOp BinOp.eql 3 (Operand.tmp 182) (Operand.tmp 184) 3, type := 4, pos := "law.go:44", after := _, guard := some (53, true) }) (v := ?vbr58) rfl (by kernel_rfl) (by kernel_rfl) (by kernel_rfl) (fun _ _ _ h => h) (Or.inl ⟨by rfl, ?hybr58⟩) (by assumption) ?restbr58
  case hybr58 => (intro w hSw; (try dsimp only at hSw); go_simp <;> with_reducible rfl)
  try simp only [Act.put, List.setIfInBounds_toArray, List.set_cons_zero, List.set_cons_succ]
  refine wpAnyH_take (i := 59) (oi := { dst := some 186, op := Op.pick (Operand.tmp 180) (Operand.tmp 185) (Operand.const (Value.bool false)), type := 4, pos := "law.go:44", after := _, guard := none }) (v := ?vbr59) rfl (by kernel_rfl) (by kernel_rfl) (by kernel_rfl) (fun _ _ _ h => h) (Or.inl ⟨by rfl, ?hybr59⟩) (by assumption) ?restbr59
  case hybr59 => (intro w hSw; (try dsimp only at hSw); go_simp <;> with_reducible rfl)
  try simp only [Act.put, List.setIfInBounds_toArray, List.set_cons_zero, List.set_cons_succ]
  refine wpAnyH_ready (rs := [60]) (by kernel_rfl) (by simp) ?_
  refine AllReadyH.cons (o := { dst := some 10, op := Op.assign (Operand.tmp 186), type := 4, pos := "law.go:44", after := _, guard := none }) rfl (fun K hK => ?_) AllReadyH.nil
  go_simp
  skip
  refine hK.out _ _ ?_ (fun hHeldbr60 => ?_)
  · exact ⟨(BX4.cell (p := ⟨w.heap.size, 0, none⟩) ckS_lt).trans ckS_0, (BX4.cell (p := ⟨w.heap.size, 1, none⟩) ckS_lt).trans ckS_1, (BX4.cell (p := ⟨w.heap.size + 1, 0, none⟩) ckT_lt).trans ckT_0, (BX4.cell (p := ⟨w.heap.size + 1, 1, none⟩) ckT_lt).trans ckT_1⟩
  clear hK K hHeldbr57
  try simp only [Act.put, List.setIfInBounds_toArray, List.set_cons_zero, List.set_cons_succ]
  refine wpAnyH_done (by kernel_rfl) ?_ _
  have hYL := hY17.trans (BX4.mono hY17.size)
  go_wp2
  go_ret
  exact ⟨rfl, hYL⟩

theorem pageTells_walk (w : World) (v0 : Value) (cap0 : Int) (ps0 : List Pg) (hst0 : StV w v0 cap0 ps0) (_wc0 : okI cap0) (_hok0 : ∀ q ∈ ps0, pgOk q) (v1 : Value) (cap1 : Int) (ps1 : List Pg) (hst1 : StV w v1 cap1 ps1) (_wc1 : okI cap1) (_hok1 : ∀ q ∈ ps1, pgOk q)
    (p : Int) (_w1 : (Lit.int .i64 p).wf = true) (i : Int) (_w2 : (Lit.int .i64 i).wf = true) (v : Int) (_w3 : (Lit.int .i64 v).wf = true) :
    Calls Try.prog 7 #[v0, v1, .int .i64 p, .int .i64 i, .int .i64 v] w fun e w' => e = .returned (.bool true) ∧ Below w.heap.size w w' := by
  obtain ⟨A0, c0, rfl, hst0⟩ := hst0.form
  obtain ⟨A1, c1, rfl, hst1⟩ := hst1.form
  by_cases h : ps0.length ≤ 40
  · by_cases h1 : ps1.length ≤ 40
    · exact tells_main w A0 A1 c0 c1 cap0 cap1 ps0 ps1 hst0 hst1 p i v h h1 _ _ _ _ _ _ _ _ _ _ rfl rfl rfl rfl
    · exact tells_long1 w A0 A1 c0 c1 cap0 cap1 ps0 ps1 hst0 hst1 p i v h h1
  · exact tells_long w A0 A1 c0 c1 cap0 cap1 ps0 ps1 hst0 hst1 p i v h

end Go.Proofs.Ytelfkopoppfaaaa
