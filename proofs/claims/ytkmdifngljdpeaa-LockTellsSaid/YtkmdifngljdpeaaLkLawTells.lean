/- The walk of LockTells. -/
import Derived.Test.YtkmdifngljdpeaaRkNew
import Derived.Test.YtkmdifngljdpeaaLkOpen
namespace Go.Proofs.Ytkmdifngljdpeaa
open Go Go.RowKit
set_option linter.unusedVariables false

set_option maxRecDepth 100000 in
set_option maxHeartbeats 4000000 in
theorem tells_long (w : World) (A0 : Option Addr) (c0 : Nat) (now mx : Int) (ls : List Lk) (hst0 : LkV w (.agg #[.int .i64 now, .int .i64 mx, .slice A0 ls.length c0]) now mx ls) (A2 : Option Addr) (c2 : Nat) (now2 mx2 : Int) (ls2 : List Lk) (hst2 : LkV w (.agg #[.int .i64 now2, .int .i64 mx2, .slice A2 ls2.length c2]) now2 mx2 ls2) (i who ver : Int) (h30 : 30 < ls.length) :
    Calls Try.prog 3 #[.agg #[.int .i64 now, .int .i64 mx, .slice A0 ls.length c0], .agg #[.int .i64 now2, .int .i64 mx2, .slice A2 ls2.length c2], .int .i64 i, .int .i64 who, .int .i64 ver] w fun e w' => e = .returned (.bool true) ∧ Below w.heap.size w w' := by
  have h30' : (30 : Int) < (ls.length : Int) := by omega
  go_enter Try.func3, Try.ntmps3
  have hA0 := (((Below.refl w.heap.size w).alloc (Nat.le_refl _) (.cells #[.int .i64 now, .int .i64 mx, .slice A0 ls.length c0] 24)).alloc (by simp) (.cells #[.int .i64 now2, .int .i64 mx2, .slice A2 ls2.length c2] 24))
  replace hst0 := hst0.keep hA0
  replace hst2 := hst2.keep hA0
  have kC := (Blk.new_ w 24 #[.int .i64 now, .int .i64 mx, .slice A0 ls.length c0] (w.heap.size) (by simp)).alloc (.cells #[.int .i64 now2, .int .i64 mx2, .slice A2 ls2.length c2] 24)
  have kO := Blk.new_ (w.alloc (.cells #[.int .i64 now, .int .i64 mx, .slice A0 ls.length c0] 24)) 24 #[.int .i64 now2, .int .i64 mx2, .slice A2 ls2.length c2] (w.heap.size + 1) (by simp)
  have hZ0 : Below w.heap.size w _ := hA0
  go_wp2_with fail
  refine (awake_any _).mono ?_
  rintro e w1 ⟨rfl, hb1⟩
  obtain ⟨hc1, hf1⟩ := bcell hb1
  have hz1 := hb1.size
  simp at hz1
  replace hst0 := hst0.keep hb1
  replace hst2 := hst2.keep hb1
  replace kC := kC.keep hb1
  replace kO := kO.keep hb1
  have hY1 := hZ0.trans (hb1.mono hZ0.size)
  have zkC_1 : w.heap.size < w1.heap.size := by omega
  have zkO_1 : w.heap.size + 1 < w1.heap.size := by omega
  go_wp2
  go_ret
  exact ⟨rfl, hY1⟩

set_option maxRecDepth 100000 in
set_option maxHeartbeats 4000000 in
theorem tells_long2 (w : World) (A0 : Option Addr) (c0 : Nat) (now mx : Int) (ls : List Lk) (hst0 : LkV w (.agg #[.int .i64 now, .int .i64 mx, .slice A0 ls.length c0]) now mx ls) (A2 : Option Addr) (c2 : Nat) (now2 mx2 : Int) (ls2 : List Lk) (hst2 : LkV w (.agg #[.int .i64 now2, .int .i64 mx2, .slice A2 ls2.length c2]) now2 mx2 ls2) (i who ver : Int) (h30 : ls.length ≤ 30) (h31 : 30 < ls2.length) :
    Calls Try.prog 3 #[.agg #[.int .i64 now, .int .i64 mx, .slice A0 ls.length c0], .agg #[.int .i64 now2, .int .i64 mx2, .slice A2 ls2.length c2], .int .i64 i, .int .i64 who, .int .i64 ver] w fun e w' => e = .returned (.bool true) ∧ Below w.heap.size w w' := by
  have h30' : ¬ (30 : Int) < (ls.length : Int) := by omega
  have h31' : (30 : Int) < (ls2.length : Int) := by omega
  go_enter Try.func3, Try.ntmps3
  have hA0 := (((Below.refl w.heap.size w).alloc (Nat.le_refl _) (.cells #[.int .i64 now, .int .i64 mx, .slice A0 ls.length c0] 24)).alloc (by simp) (.cells #[.int .i64 now2, .int .i64 mx2, .slice A2 ls2.length c2] 24))
  replace hst0 := hst0.keep hA0
  replace hst2 := hst2.keep hA0
  have kC := (Blk.new_ w 24 #[.int .i64 now, .int .i64 mx, .slice A0 ls.length c0] (w.heap.size) (by simp)).alloc (.cells #[.int .i64 now2, .int .i64 mx2, .slice A2 ls2.length c2] 24)
  have kO := Blk.new_ (w.alloc (.cells #[.int .i64 now, .int .i64 mx, .slice A0 ls.length c0] 24)) 24 #[.int .i64 now2, .int .i64 mx2, .slice A2 ls2.length c2] (w.heap.size + 1) (by simp)
  have hZ0 : Below w.heap.size w _ := hA0
  go_wp2_with fail
  refine (awake_any _).mono ?_
  rintro e w1 ⟨rfl, hb1⟩
  obtain ⟨hc1, hf1⟩ := bcell hb1
  have hz1 := hb1.size
  simp at hz1
  replace hst0 := hst0.keep hb1
  replace hst2 := hst2.keep hb1
  replace kC := kC.keep hb1
  replace kO := kO.keep hb1
  have hY1 := hZ0.trans (hb1.mono hZ0.size)
  have zkC_1 : w.heap.size < w1.heap.size := by omega
  have zkO_1 : w.heap.size + 1 < w1.heap.size := by omega
  go_wp2
  go_ret
  exact ⟨rfl, hY1⟩

set_option maxRecDepth 100000 in
set_option maxHeartbeats 4000000 in
theorem tells_no (w : World) (A0 : Option Addr) (c0 : Nat) (now mx : Int) (ls : List Lk) (hst0 : LkV w (.agg #[.int .i64 now, .int .i64 mx, .slice A0 ls.length c0]) now mx ls) (A2 : Option Addr) (c2 : Nat) (now2 mx2 : Int) (ls2 : List Lk) (hst2 : LkV w (.agg #[.int .i64 now2, .int .i64 mx2, .slice A2 ls2.length c2]) now2 mx2 ls2) (i who ver : Int) (h30 : ls.length ≤ 30) (h31 : ls2.length ≤ 30) (eA eD nT rT eT : Int) (lsA lsD : List Lk) (hA : takeL now mx ls i who = (eA, lsA)) (hD : giveL now mx ls i who ver = (eD, lsD)) (hT : tickL now mx ls = (nT, rT, eT)) (hN : newOk i ver = false) :
    Calls Try.prog 3 #[.agg #[.int .i64 now, .int .i64 mx, .slice A0 ls.length c0], .agg #[.int .i64 now2, .int .i64 mx2, .slice A2 ls2.length c2], .int .i64 i, .int .i64 who, .int .i64 ver] w fun e w' => e = .returned (.bool true) ∧ Below w.heap.size w w' := by
  have cN := fun W => LNew_no i ver W hN
  have rN := fun W => RNew_no i ver W hN
  clear hN
  have h30' : ¬ (30 : Int) < (ls.length : Int) := by omega
  have h31' : ¬ (30 : Int) < (ls2.length : Int) := by omega
  have cA := fun v W hs => Take_any v now mx i who ls W hs (by omega)
  rw [hA] at cA
  have rA := fun v W hs => RTake_any v now mx i who ls W hs (by omega)
  rw [hA] at rA
  have cD := fun v W hs => Give_any v now mx i who ver ls W hs (by omega)
  rw [hD] at cD
  have rD := fun v W hs => RGive_any v now mx i who ver ls W hs (by omega)
  rw [hD] at rD
  have cT := fun v W hs => Tick_any v now mx ls W hs (by omega)
  rw [hT] at cT
  have rT := fun v W hs => RTick_any v now mx ls W hs
  rw [hT] at rT
  have sA := fun n m xs v1 v2 W h1 h2 => RSame_any v1 v2 n m n m xs xs W h1 h2
  simp only [sameL_refl] at sA
  have m1 := fun sv W h => lmay_any now mx sv ls W h
  have m2 := fun sv W h => rmay_any now mx sv ls W h
  have s1 := fun v1 v2 W h1 h2 => LSame_any v1 v2 now mx now2 mx2 ls ls2 W h1 h2
  have s2 := fun v1 v2 W h1 h2 => RSame_any v1 v2 now mx now2 mx2 ls ls2 W h1 h2
  have e1 := fun v W hs => Sees_any v now mx i ver who ls W hs
  have e2 := fun v W hs => RSees_any v now mx i ver who ls W hs
  generalize mayL now mx ls = q1 at m1 m2
  generalize sameL now mx ls now2 mx2 ls2 = q2 at s1 s2
  generalize seesL now mx ls i ver who = q3 at e1 e2
  clear hA hD hT h30 h31
  go_enter Try.func3, Try.ntmps3
  have hA0 := (((Below.refl w.heap.size w).alloc (Nat.le_refl _) (.cells #[.int .i64 now, .int .i64 mx, .slice A0 ls.length c0] 24)).alloc (by simp) (.cells #[.int .i64 now2, .int .i64 mx2, .slice A2 ls2.length c2] 24))
  replace hst0 := hst0.keep hA0
  replace hst2 := hst2.keep hA0
  have kC := (Blk.new_ w 24 #[.int .i64 now, .int .i64 mx, .slice A0 ls.length c0] (w.heap.size) (by simp)).alloc (.cells #[.int .i64 now2, .int .i64 mx2, .slice A2 ls2.length c2] 24)
  have kO := Blk.new_ (w.alloc (.cells #[.int .i64 now, .int .i64 mx, .slice A0 ls.length c0] 24)) 24 #[.int .i64 now2, .int .i64 mx2, .slice A2 ls2.length c2] (w.heap.size + 1) (by simp)
  have hZ0 : Below w.heap.size w _ := hA0
  go_wp2_with fail
  refine (awake_any _).mono ?_
  rintro e w1 ⟨rfl, hb1⟩
  obtain ⟨hc1, hf1⟩ := bcell hb1
  have hz1 := hb1.size
  simp at hz1
  replace hst0 := hst0.keep hb1
  replace hst2 := hst2.keep hb1
  replace kC := kC.keep hb1
  replace kO := kO.keep hb1
  have hY1 := hZ0.trans (hb1.mono hZ0.size)
  have zkC_1 : w.heap.size < w1.heap.size := by omega
  have zkO_1 : w.heap.size + 1 < w1.heap.size := by omega
  have hZ1 : Below w.heap.size w w1 := hY1
  go_wp2_with fail
  refine (cA _ _ hst0).mono ?_
  rintro e w2 ⟨v2, rfl, hstA, hb2⟩
  obtain ⟨hc2, hf2⟩ := bcell hb2
  have hz2 := hb2.size
  replace hst0 := hst0.keep hb2
  replace hst2 := hst2.keep hb2
  replace kC := kC.keep hb2
  replace kO := kO.keep hb2
  have hY2 := hZ1.trans (hb2.mono hZ1.size)
  have zkC_2 : w.heap.size < w2.heap.size := by omega
  have zkO_2 : w.heap.size + 1 < w2.heap.size := by omega
  replace hstA := hstA.to
  try dsimp only at hstA
  obtain ⟨AA, dA, rfl, hstA⟩ := hstA.form
  have hA2 := ((Below.refl w2.heap.size w2).alloc (Nat.le_refl _) (.cells #[.int .i64 now, .int .i64 mx, .slice AA lsA.length dA] 24))
  replace hst0 := hst0.keep hA2
  replace hst2 := hst2.keep hA2
  replace kC := kC.keep hA2
  replace kO := kO.keep hA2
  replace hstA := hstA.keep hA2
  have kA := Blk.new_ w2 24 #[.int .i64 now, .int .i64 mx, .slice AA lsA.length dA] (w2.heap.size) (by simp)
  have hZ2 : Below w.heap.size w _ := hY2.trans (hA2.mono hY2.size)
  go_wp2_with fail
  refine (rA _ _ hst0).mono ?_
  rintro e w3 ⟨v3, rfl, hstB, hb3⟩
  obtain ⟨hc3, hf3⟩ := bcell hb3
  have hz3 := hb3.size
  simp at hz3
  replace hst0 := hst0.keep hb3
  replace hst2 := hst2.keep hb3
  replace kC := kC.keep hb3
  replace kO := kO.keep hb3
  replace hstA := hstA.keep hb3
  replace kA := kA.keep hb3
  have hY3 := hZ2.trans (hb3.mono hZ2.size)
  have zkC_3 : w.heap.size < w3.heap.size := by omega
  have zkO_3 : w.heap.size + 1 < w3.heap.size := by omega
  have zkA_3 : w2.heap.size < w3.heap.size := by omega
  try dsimp only at hstB
  obtain ⟨AB, dB, rfl, hstB⟩ := hstB.form
  have hA3 := ((Below.refl w3.heap.size w3).alloc (Nat.le_refl _) (.cells #[.int .i64 now, .int .i64 mx, .slice AB lsA.length dB] 24))
  replace hst0 := hst0.keep hA3
  replace hst2 := hst2.keep hA3
  replace kC := kC.keep hA3
  replace kO := kO.keep hA3
  replace hstA := hstA.keep hA3
  replace kA := kA.keep hA3
  replace hstB := hstB.keep hA3
  have kB := Blk.new_ w3 24 #[.int .i64 now, .int .i64 mx, .slice AB lsA.length dB] (w3.heap.size) (by simp)
  have hZ3 : Below w.heap.size w _ := hY3.trans (hA3.mono hY3.size)
  go_wp2_with fail
  refine (cD _ _ hst0).mono ?_
  rintro e w4 ⟨v4, rfl, hstD, hb4⟩
  obtain ⟨hc4, hf4⟩ := bcell hb4
  have hz4 := hb4.size
  simp at hz4
  replace hst0 := hst0.keep hb4
  replace hst2 := hst2.keep hb4
  replace kC := kC.keep hb4
  replace kO := kO.keep hb4
  replace hstA := hstA.keep hb4
  replace kA := kA.keep hb4
  replace hstB := hstB.keep hb4
  replace kB := kB.keep hb4
  have hY4 := hZ3.trans (hb4.mono hZ3.size)
  have zkC_4 : w.heap.size < w4.heap.size := by omega
  have zkO_4 : w.heap.size + 1 < w4.heap.size := by omega
  have zkA_4 : w2.heap.size < w4.heap.size := by omega
  have zkB_4 : w3.heap.size < w4.heap.size := by omega
  replace hstD := hstD.to
  try dsimp only at hstD
  obtain ⟨AD, dD, rfl, hstD⟩ := hstD.form
  have hA4 := ((Below.refl w4.heap.size w4).alloc (Nat.le_refl _) (.cells #[.int .i64 now, .int .i64 mx, .slice AD lsD.length dD] 24))
  replace hst0 := hst0.keep hA4
  replace hst2 := hst2.keep hA4
  replace kC := kC.keep hA4
  replace kO := kO.keep hA4
  replace hstA := hstA.keep hA4
  replace kA := kA.keep hA4
  replace hstB := hstB.keep hA4
  replace kB := kB.keep hA4
  replace hstD := hstD.keep hA4
  have kD := Blk.new_ w4 24 #[.int .i64 now, .int .i64 mx, .slice AD lsD.length dD] (w4.heap.size) (by simp)
  have hZ4 : Below w.heap.size w _ := hY4.trans (hA4.mono hY4.size)
  go_wp2_with fail
  refine (rD _ _ hst0).mono ?_
  rintro e w5 ⟨v5, rfl, hstH, hb5⟩
  obtain ⟨hc5, hf5⟩ := bcell hb5
  have hz5 := hb5.size
  simp at hz5
  replace hst0 := hst0.keep hb5
  replace hst2 := hst2.keep hb5
  replace kC := kC.keep hb5
  replace kO := kO.keep hb5
  replace hstA := hstA.keep hb5
  replace kA := kA.keep hb5
  replace hstB := hstB.keep hb5
  replace kB := kB.keep hb5
  replace hstD := hstD.keep hb5
  replace kD := kD.keep hb5
  have hY5 := hZ4.trans (hb5.mono hZ4.size)
  have zkC_5 : w.heap.size < w5.heap.size := by omega
  have zkO_5 : w.heap.size + 1 < w5.heap.size := by omega
  have zkA_5 : w2.heap.size < w5.heap.size := by omega
  have zkB_5 : w3.heap.size < w5.heap.size := by omega
  have zkD_5 : w4.heap.size < w5.heap.size := by omega
  try dsimp only at hstH
  obtain ⟨AH, dH, rfl, hstH⟩ := hstH.form
  have hA5 := ((Below.refl w5.heap.size w5).alloc (Nat.le_refl _) (.cells #[.int .i64 now, .int .i64 mx, .slice AH lsD.length dH] 24))
  replace hst0 := hst0.keep hA5
  replace hst2 := hst2.keep hA5
  replace kC := kC.keep hA5
  replace kO := kO.keep hA5
  replace hstA := hstA.keep hA5
  replace kA := kA.keep hA5
  replace hstB := hstB.keep hA5
  replace kB := kB.keep hA5
  replace hstD := hstD.keep hA5
  replace kD := kD.keep hA5
  replace hstH := hstH.keep hA5
  have kH := Blk.new_ w5 24 #[.int .i64 now, .int .i64 mx, .slice AH lsD.length dH] (w5.heap.size) (by simp)
  have hZ5 : Below w.heap.size w _ := hY5.trans (hA5.mono hY5.size)
  go_wp2_with fail
  refine (cT _ _ hst0).mono ?_
  rintro e w6 ⟨v6, rfl, hstK, hb6⟩
  obtain ⟨hc6, hf6⟩ := bcell hb6
  have hz6 := hb6.size
  simp at hz6
  replace hst0 := hst0.keep hb6
  replace hst2 := hst2.keep hb6
  replace kC := kC.keep hb6
  replace kO := kO.keep hb6
  replace hstA := hstA.keep hb6
  replace kA := kA.keep hb6
  replace hstB := hstB.keep hb6
  replace kB := kB.keep hb6
  replace hstD := hstD.keep hb6
  replace kD := kD.keep hb6
  replace hstH := hstH.keep hb6
  replace kH := kH.keep hb6
  have hY6 := hZ5.trans (hb6.mono hZ5.size)
  have zkC_6 : w.heap.size < w6.heap.size := by omega
  have zkO_6 : w.heap.size + 1 < w6.heap.size := by omega
  have zkA_6 : w2.heap.size < w6.heap.size := by omega
  have zkB_6 : w3.heap.size < w6.heap.size := by omega
  have zkD_6 : w4.heap.size < w6.heap.size := by omega
  have zkH_6 : w5.heap.size < w6.heap.size := by omega
  replace hstK := hstK.to
  try dsimp only at hstK
  obtain ⟨AK, dK, rfl, hstK⟩ := hstK.form
  have hA6 := ((Below.refl w6.heap.size w6).alloc (Nat.le_refl _) (.cells #[.int .i64 nT, .int .i64 mx, .slice AK ls.length dK] 24))
  replace hst0 := hst0.keep hA6
  replace hst2 := hst2.keep hA6
  replace kC := kC.keep hA6
  replace kO := kO.keep hA6
  replace hstA := hstA.keep hA6
  replace kA := kA.keep hA6
  replace hstB := hstB.keep hA6
  replace kB := kB.keep hA6
  replace hstD := hstD.keep hA6
  replace kD := kD.keep hA6
  replace hstH := hstH.keep hA6
  replace kH := kH.keep hA6
  replace hstK := hstK.keep hA6
  have kK := Blk.new_ w6 24 #[.int .i64 nT, .int .i64 mx, .slice AK ls.length dK] (w6.heap.size) (by simp)
  have hZ6 : Below w.heap.size w _ := hY6.trans (hA6.mono hY6.size)
  go_wp2_with fail
  refine (rT _ _ hst0).mono ?_
  rintro e w7 ⟨v7, rfl, hstL, hb7⟩
  obtain ⟨hc7, hf7⟩ := bcell hb7
  have hz7 := hb7.size
  simp at hz7
  replace hst0 := hst0.keep hb7
  replace hst2 := hst2.keep hb7
  replace kC := kC.keep hb7
  replace kO := kO.keep hb7
  replace hstA := hstA.keep hb7
  replace kA := kA.keep hb7
  replace hstB := hstB.keep hb7
  replace kB := kB.keep hb7
  replace hstD := hstD.keep hb7
  replace kD := kD.keep hb7
  replace hstH := hstH.keep hb7
  replace kH := kH.keep hb7
  replace hstK := hstK.keep hb7
  replace kK := kK.keep hb7
  have hY7 := hZ6.trans (hb7.mono hZ6.size)
  have zkC_7 : w.heap.size < w7.heap.size := by omega
  have zkO_7 : w.heap.size + 1 < w7.heap.size := by omega
  have zkA_7 : w2.heap.size < w7.heap.size := by omega
  have zkB_7 : w3.heap.size < w7.heap.size := by omega
  have zkD_7 : w4.heap.size < w7.heap.size := by omega
  have zkH_7 : w5.heap.size < w7.heap.size := by omega
  have zkK_7 : w6.heap.size < w7.heap.size := by omega
  try dsimp only at hstL
  obtain ⟨AL, dL, rfl, hstL⟩ := hstL.form
  have hA7 := ((Below.refl w7.heap.size w7).alloc (Nat.le_refl _) (.cells #[.int .i64 nT, .int .i64 mx, .slice AL ls.length dL] 24))
  replace hst0 := hst0.keep hA7
  replace hst2 := hst2.keep hA7
  replace kC := kC.keep hA7
  replace kO := kO.keep hA7
  replace hstA := hstA.keep hA7
  replace kA := kA.keep hA7
  replace hstB := hstB.keep hA7
  replace kB := kB.keep hA7
  replace hstD := hstD.keep hA7
  replace kD := kD.keep hA7
  replace hstH := hstH.keep hA7
  replace kH := kH.keep hA7
  replace hstK := hstK.keep hA7
  replace kK := kK.keep hA7
  replace hstL := hstL.keep hA7
  have kL := Blk.new_ w7 24 #[.int .i64 nT, .int .i64 mx, .slice AL ls.length dL] (w7.heap.size) (by simp)
  have hZ7 : Below w.heap.size w _ := hY7.trans (hA7.mono hY7.size)
  go_wp2_with fail
  refine (cN _).mono ?_
  rintro e w8 ⟨rfl, hb8⟩
  obtain ⟨hc8, hf8⟩ := bcell hb8
  have hz8 := hb8.size
  simp at hz8
  replace hst0 := hst0.keep hb8
  replace hst2 := hst2.keep hb8
  replace kC := kC.keep hb8
  replace kO := kO.keep hb8
  replace hstA := hstA.keep hb8
  replace kA := kA.keep hb8
  replace hstB := hstB.keep hb8
  replace kB := kB.keep hb8
  replace hstD := hstD.keep hb8
  replace kD := kD.keep hb8
  replace hstH := hstH.keep hb8
  replace kH := kH.keep hb8
  replace hstK := hstK.keep hb8
  replace kK := kK.keep hb8
  replace hstL := hstL.keep hb8
  replace kL := kL.keep hb8
  have hY8 := hZ7.trans (hb8.mono hZ7.size)
  have zkC_8 : w.heap.size < w8.heap.size := by omega
  have zkO_8 : w.heap.size + 1 < w8.heap.size := by omega
  have zkA_8 : w2.heap.size < w8.heap.size := by omega
  have zkB_8 : w3.heap.size < w8.heap.size := by omega
  have zkD_8 : w4.heap.size < w8.heap.size := by omega
  have zkH_8 : w5.heap.size < w8.heap.size := by omega
  have zkK_8 : w6.heap.size < w8.heap.size := by omega
  have zkL_8 : w7.heap.size < w8.heap.size := by omega
  have hstP : LkV w8 (.agg #[.int .i64 0, .int .i64 0, .slice none 0 0]) 0 0 [] := ⟨_, rfl, Sl.nil _ _⟩
  have hA8 := ((Below.refl w8.heap.size w8).alloc (Nat.le_refl _) (.cells #[.int .i64 0, .int .i64 0, .slice none 0 0] 24))
  replace hst0 := hst0.keep hA8
  replace hst2 := hst2.keep hA8
  replace kC := kC.keep hA8
  replace kO := kO.keep hA8
  replace hstA := hstA.keep hA8
  replace kA := kA.keep hA8
  replace hstB := hstB.keep hA8
  replace kB := kB.keep hA8
  replace hstD := hstD.keep hA8
  replace kD := kD.keep hA8
  replace hstH := hstH.keep hA8
  replace kH := kH.keep hA8
  replace hstK := hstK.keep hA8
  replace kK := kK.keep hA8
  replace hstL := hstL.keep hA8
  replace kL := kL.keep hA8
  replace hstP := hstP.keep hA8
  have kP := Blk.new_ w8 24 #[.int .i64 0, .int .i64 0, .slice none 0 0] (w8.heap.size) (by simp)
  have hZ8 : Below w.heap.size w _ := hY8.trans (hA8.mono hY8.size)
  go_wp2_with fail
  refine (rN _).mono ?_
  rintro e w9 ⟨rfl, hb9⟩
  obtain ⟨hc9, hf9⟩ := bcell hb9
  have hz9 := hb9.size
  simp at hz9
  replace hst0 := hst0.keep hb9
  replace hst2 := hst2.keep hb9
  replace kC := kC.keep hb9
  replace kO := kO.keep hb9
  replace hstA := hstA.keep hb9
  replace kA := kA.keep hb9
  replace hstB := hstB.keep hb9
  replace kB := kB.keep hb9
  replace hstD := hstD.keep hb9
  replace kD := kD.keep hb9
  replace hstH := hstH.keep hb9
  replace kH := kH.keep hb9
  replace hstK := hstK.keep hb9
  replace kK := kK.keep hb9
  replace hstL := hstL.keep hb9
  replace kL := kL.keep hb9
  replace hstP := hstP.keep hb9
  replace kP := kP.keep hb9
  have hY9 := hZ8.trans (hb9.mono hZ8.size)
  have zkC_9 : w.heap.size < w9.heap.size := by omega
  have zkO_9 : w.heap.size + 1 < w9.heap.size := by omega
  have zkA_9 : w2.heap.size < w9.heap.size := by omega
  have zkB_9 : w3.heap.size < w9.heap.size := by omega
  have zkD_9 : w4.heap.size < w9.heap.size := by omega
  have zkH_9 : w5.heap.size < w9.heap.size := by omega
  have zkK_9 : w6.heap.size < w9.heap.size := by omega
  have zkL_9 : w7.heap.size < w9.heap.size := by omega
  have zkP_9 : w8.heap.size < w9.heap.size := by omega
  have hA9 := ((Below.refl w9.heap.size w9).alloc (Nat.le_refl _) (.cells #[.int .i64 0, .int .i64 0, .slice none 0 0] 24))
  replace hst0 := hst0.keep hA9
  replace hst2 := hst2.keep hA9
  replace kC := kC.keep hA9
  replace kO := kO.keep hA9
  replace hstA := hstA.keep hA9
  replace kA := kA.keep hA9
  replace hstB := hstB.keep hA9
  replace kB := kB.keep hA9
  replace hstD := hstD.keep hA9
  replace kD := kD.keep hA9
  replace hstH := hstH.keep hA9
  replace kH := kH.keep hA9
  replace hstK := hstK.keep hA9
  replace kK := kK.keep hA9
  replace hstL := hstL.keep hA9
  replace kL := kL.keep hA9
  replace hstP := hstP.keep hA9
  replace kP := kP.keep hA9
  have kQ := Blk.new_ w9 24 #[.int .i64 0, .int .i64 0, .slice none 0 0] (w9.heap.size) (by simp)
  have hZ9 : Below w.heap.size w _ := hY9.trans (hA9.mono hY9.size)
  go_wp2_with fail
  refine (sA _ _ _ _ _ _ hstA hstB).mono ?_
  rintro e w10 ⟨rfl, hb10⟩
  obtain ⟨hc10, hf10⟩ := bcell hb10
  have hz10 := hb10.size
  simp at hz10
  replace hst0 := hst0.keep hb10
  replace hst2 := hst2.keep hb10
  replace kC := kC.keep hb10
  replace kO := kO.keep hb10
  replace hstA := hstA.keep hb10
  replace kA := kA.keep hb10
  replace hstB := hstB.keep hb10
  replace kB := kB.keep hb10
  replace hstD := hstD.keep hb10
  replace kD := kD.keep hb10
  replace hstH := hstH.keep hb10
  replace kH := kH.keep hb10
  replace hstK := hstK.keep hb10
  replace kK := kK.keep hb10
  replace hstL := hstL.keep hb10
  replace kL := kL.keep hb10
  replace hstP := hstP.keep hb10
  replace kP := kP.keep hb10
  replace kQ := kQ.keep hb10
  have hY10 := hZ9.trans (hb10.mono hZ9.size)
  have zkC_10 : w.heap.size < w10.heap.size := by omega
  have zkO_10 : w.heap.size + 1 < w10.heap.size := by omega
  have zkA_10 : w2.heap.size < w10.heap.size := by omega
  have zkB_10 : w3.heap.size < w10.heap.size := by omega
  have zkD_10 : w4.heap.size < w10.heap.size := by omega
  have zkH_10 : w5.heap.size < w10.heap.size := by omega
  have zkK_10 : w6.heap.size < w10.heap.size := by omega
  have zkL_10 : w7.heap.size < w10.heap.size := by omega
  have zkP_10 : w8.heap.size < w10.heap.size := by omega
  have zkQ_10 : w9.heap.size < w10.heap.size := by omega
  have hZ10 : Below w.heap.size w w10 := hY10
  go_wp2_with fail
  refine (sA _ _ _ _ _ _ hstD hstH).mono ?_
  rintro e w11 ⟨rfl, hb11⟩
  obtain ⟨hc11, hf11⟩ := bcell hb11
  have hz11 := hb11.size
  replace hst0 := hst0.keep hb11
  replace hst2 := hst2.keep hb11
  replace kC := kC.keep hb11
  replace kO := kO.keep hb11
  replace hstA := hstA.keep hb11
  replace kA := kA.keep hb11
  replace hstB := hstB.keep hb11
  replace kB := kB.keep hb11
  replace hstD := hstD.keep hb11
  replace kD := kD.keep hb11
  replace hstH := hstH.keep hb11
  replace kH := kH.keep hb11
  replace hstK := hstK.keep hb11
  replace kK := kK.keep hb11
  replace hstL := hstL.keep hb11
  replace kL := kL.keep hb11
  replace hstP := hstP.keep hb11
  replace kP := kP.keep hb11
  replace kQ := kQ.keep hb11
  have hY11 := hZ10.trans (hb11.mono hZ10.size)
  have zkC_11 : w.heap.size < w11.heap.size := by omega
  have zkO_11 : w.heap.size + 1 < w11.heap.size := by omega
  have zkA_11 : w2.heap.size < w11.heap.size := by omega
  have zkB_11 : w3.heap.size < w11.heap.size := by omega
  have zkD_11 : w4.heap.size < w11.heap.size := by omega
  have zkH_11 : w5.heap.size < w11.heap.size := by omega
  have zkK_11 : w6.heap.size < w11.heap.size := by omega
  have zkL_11 : w7.heap.size < w11.heap.size := by omega
  have zkP_11 : w8.heap.size < w11.heap.size := by omega
  have zkQ_11 : w9.heap.size < w11.heap.size := by omega
  have hZ11 : Below w.heap.size w w11 := hY11
  go_wp2_with fail
  refine (sA _ _ _ _ _ _ hstK hstL).mono ?_
  rintro e w12 ⟨rfl, hb12⟩
  obtain ⟨hc12, hf12⟩ := bcell hb12
  have hz12 := hb12.size
  replace hst0 := hst0.keep hb12
  replace hst2 := hst2.keep hb12
  replace kC := kC.keep hb12
  replace kO := kO.keep hb12
  replace hstA := hstA.keep hb12
  replace kA := kA.keep hb12
  replace hstB := hstB.keep hb12
  replace kB := kB.keep hb12
  replace hstD := hstD.keep hb12
  replace kD := kD.keep hb12
  replace hstH := hstH.keep hb12
  replace kH := kH.keep hb12
  replace hstK := hstK.keep hb12
  replace kK := kK.keep hb12
  replace hstL := hstL.keep hb12
  replace kL := kL.keep hb12
  replace hstP := hstP.keep hb12
  replace kP := kP.keep hb12
  replace kQ := kQ.keep hb12
  have hY12 := hZ11.trans (hb12.mono hZ11.size)
  have zkC_12 : w.heap.size < w12.heap.size := by omega
  have zkO_12 : w.heap.size + 1 < w12.heap.size := by omega
  have zkA_12 : w2.heap.size < w12.heap.size := by omega
  have zkB_12 : w3.heap.size < w12.heap.size := by omega
  have zkD_12 : w4.heap.size < w12.heap.size := by omega
  have zkH_12 : w5.heap.size < w12.heap.size := by omega
  have zkK_12 : w6.heap.size < w12.heap.size := by omega
  have zkL_12 : w7.heap.size < w12.heap.size := by omega
  have zkP_12 : w8.heap.size < w12.heap.size := by omega
  have zkQ_12 : w9.heap.size < w12.heap.size := by omega
  have hZ12 : Below w.heap.size w w12 := hY12
  go_wp2_with fail
  refine (sA _ _ _ _ _ _ hstP hstP).mono ?_
  rintro e w13 ⟨rfl, hb13⟩
  obtain ⟨hc13, hf13⟩ := bcell hb13
  have hz13 := hb13.size
  replace hst0 := hst0.keep hb13
  replace hst2 := hst2.keep hb13
  replace kC := kC.keep hb13
  replace kO := kO.keep hb13
  replace hstA := hstA.keep hb13
  replace kA := kA.keep hb13
  replace hstB := hstB.keep hb13
  replace kB := kB.keep hb13
  replace hstD := hstD.keep hb13
  replace kD := kD.keep hb13
  replace hstH := hstH.keep hb13
  replace kH := kH.keep hb13
  replace hstK := hstK.keep hb13
  replace kK := kK.keep hb13
  replace hstL := hstL.keep hb13
  replace kL := kL.keep hb13
  replace hstP := hstP.keep hb13
  replace kP := kP.keep hb13
  replace kQ := kQ.keep hb13
  have hY13 := hZ12.trans (hb13.mono hZ12.size)
  have zkC_13 : w.heap.size < w13.heap.size := by omega
  have zkO_13 : w.heap.size + 1 < w13.heap.size := by omega
  have zkA_13 : w2.heap.size < w13.heap.size := by omega
  have zkB_13 : w3.heap.size < w13.heap.size := by omega
  have zkD_13 : w4.heap.size < w13.heap.size := by omega
  have zkH_13 : w5.heap.size < w13.heap.size := by omega
  have zkK_13 : w6.heap.size < w13.heap.size := by omega
  have zkL_13 : w7.heap.size < w13.heap.size := by omega
  have zkP_13 : w8.heap.size < w13.heap.size := by omega
  have zkQ_13 : w9.heap.size < w13.heap.size := by omega
  have hZ13 : Below w.heap.size w w13 := hY13
  go_wp2_with fail
  refine (m2 _ _ hst0.sl).mono ?_
  rintro e w14 ⟨rfl, hb14⟩
  obtain ⟨hc14, hf14⟩ := bcell hb14
  have hz14 := hb14.size
  replace hst0 := hst0.keep hb14
  replace hst2 := hst2.keep hb14
  replace kC := kC.keep hb14
  replace kO := kO.keep hb14
  replace hstA := hstA.keep hb14
  replace kA := kA.keep hb14
  replace hstB := hstB.keep hb14
  replace kB := kB.keep hb14
  replace hstD := hstD.keep hb14
  replace kD := kD.keep hb14
  replace hstH := hstH.keep hb14
  replace kH := kH.keep hb14
  replace hstK := hstK.keep hb14
  replace kK := kK.keep hb14
  replace hstL := hstL.keep hb14
  replace kL := kL.keep hb14
  replace hstP := hstP.keep hb14
  replace kP := kP.keep hb14
  replace kQ := kQ.keep hb14
  have hY14 := hZ13.trans (hb14.mono hZ13.size)
  have zkC_14 : w.heap.size < w14.heap.size := by omega
  have zkO_14 : w.heap.size + 1 < w14.heap.size := by omega
  have zkA_14 : w2.heap.size < w14.heap.size := by omega
  have zkB_14 : w3.heap.size < w14.heap.size := by omega
  have zkD_14 : w4.heap.size < w14.heap.size := by omega
  have zkH_14 : w5.heap.size < w14.heap.size := by omega
  have zkK_14 : w6.heap.size < w14.heap.size := by omega
  have zkL_14 : w7.heap.size < w14.heap.size := by omega
  have zkP_14 : w8.heap.size < w14.heap.size := by omega
  have zkQ_14 : w9.heap.size < w14.heap.size := by omega
  have hZ14 : Below w.heap.size w w14 := hY14
  go_wp2_with fail
  refine (s2 _ _ _ hst0 hst2).mono ?_
  rintro e w15 ⟨rfl, hb15⟩
  obtain ⟨hc15, hf15⟩ := bcell hb15
  have hz15 := hb15.size
  replace hst0 := hst0.keep hb15
  replace hst2 := hst2.keep hb15
  replace kC := kC.keep hb15
  replace kO := kO.keep hb15
  replace hstA := hstA.keep hb15
  replace kA := kA.keep hb15
  replace hstB := hstB.keep hb15
  replace kB := kB.keep hb15
  replace hstD := hstD.keep hb15
  replace kD := kD.keep hb15
  replace hstH := hstH.keep hb15
  replace kH := kH.keep hb15
  replace hstK := hstK.keep hb15
  replace kK := kK.keep hb15
  replace hstL := hstL.keep hb15
  replace kL := kL.keep hb15
  replace hstP := hstP.keep hb15
  replace kP := kP.keep hb15
  replace kQ := kQ.keep hb15
  have hY15 := hZ14.trans (hb15.mono hZ14.size)
  have zkC_15 : w.heap.size < w15.heap.size := by omega
  have zkO_15 : w.heap.size + 1 < w15.heap.size := by omega
  have zkA_15 : w2.heap.size < w15.heap.size := by omega
  have zkB_15 : w3.heap.size < w15.heap.size := by omega
  have zkD_15 : w4.heap.size < w15.heap.size := by omega
  have zkH_15 : w5.heap.size < w15.heap.size := by omega
  have zkK_15 : w6.heap.size < w15.heap.size := by omega
  have zkL_15 : w7.heap.size < w15.heap.size := by omega
  have zkP_15 : w8.heap.size < w15.heap.size := by omega
  have zkQ_15 : w9.heap.size < w15.heap.size := by omega
  have hZ15 : Below w.heap.size w w15 := hY15
  go_wp2_with fail
  refine (e2 _ _ hst0).mono ?_
  rintro e w16 ⟨rfl, hb16⟩
  obtain ⟨hc16, hf16⟩ := bcell hb16
  have hz16 := hb16.size
  replace hst0 := hst0.keep hb16
  replace hst2 := hst2.keep hb16
  replace kC := kC.keep hb16
  replace kO := kO.keep hb16
  replace hstA := hstA.keep hb16
  replace kA := kA.keep hb16
  replace hstB := hstB.keep hb16
  replace kB := kB.keep hb16
  replace hstD := hstD.keep hb16
  replace kD := kD.keep hb16
  replace hstH := hstH.keep hb16
  replace kH := kH.keep hb16
  replace hstK := hstK.keep hb16
  replace kK := kK.keep hb16
  replace hstL := hstL.keep hb16
  replace kL := kL.keep hb16
  replace hstP := hstP.keep hb16
  replace kP := kP.keep hb16
  replace kQ := kQ.keep hb16
  have hY16 := hZ15.trans (hb16.mono hZ15.size)
  have zkC_16 : w.heap.size < w16.heap.size := by omega
  have zkO_16 : w.heap.size + 1 < w16.heap.size := by omega
  have zkA_16 : w2.heap.size < w16.heap.size := by omega
  have zkB_16 : w3.heap.size < w16.heap.size := by omega
  have zkD_16 : w4.heap.size < w16.heap.size := by omega
  have zkH_16 : w5.heap.size < w16.heap.size := by omega
  have zkK_16 : w6.heap.size < w16.heap.size := by omega
  have zkL_16 : w7.heap.size < w16.heap.size := by omega
  have zkP_16 : w8.heap.size < w16.heap.size := by omega
  have zkQ_16 : w9.heap.size < w16.heap.size := by omega
  have hZ16 : Below w.heap.size w w16 := hY16
  go_wp2_with fail
  refine (m1 _ _ hst0.sl).mono ?_
  rintro e w17 ⟨rfl, hb17⟩
  obtain ⟨hc17, hf17⟩ := bcell hb17
  have hz17 := hb17.size
  replace hst0 := hst0.keep hb17
  replace hst2 := hst2.keep hb17
  replace kC := kC.keep hb17
  replace kO := kO.keep hb17
  replace hstA := hstA.keep hb17
  replace kA := kA.keep hb17
  replace hstB := hstB.keep hb17
  replace kB := kB.keep hb17
  replace hstD := hstD.keep hb17
  replace kD := kD.keep hb17
  replace hstH := hstH.keep hb17
  replace kH := kH.keep hb17
  replace hstK := hstK.keep hb17
  replace kK := kK.keep hb17
  replace hstL := hstL.keep hb17
  replace kL := kL.keep hb17
  replace hstP := hstP.keep hb17
  replace kP := kP.keep hb17
  replace kQ := kQ.keep hb17
  have hY17 := hZ16.trans (hb17.mono hZ16.size)
  have zkC_17 : w.heap.size < w17.heap.size := by omega
  have zkO_17 : w.heap.size + 1 < w17.heap.size := by omega
  have zkA_17 : w2.heap.size < w17.heap.size := by omega
  have zkB_17 : w3.heap.size < w17.heap.size := by omega
  have zkD_17 : w4.heap.size < w17.heap.size := by omega
  have zkH_17 : w5.heap.size < w17.heap.size := by omega
  have zkK_17 : w6.heap.size < w17.heap.size := by omega
  have zkL_17 : w7.heap.size < w17.heap.size := by omega
  have zkP_17 : w8.heap.size < w17.heap.size := by omega
  have zkQ_17 : w9.heap.size < w17.heap.size := by omega
  have hZ17 : Below w.heap.size w w17 := hY17
  go_wp2_with fail
  refine (s1 _ _ _ hst0 hst2).mono ?_
  rintro e w18 ⟨rfl, hb18⟩
  obtain ⟨hc18, hf18⟩ := bcell hb18
  have hz18 := hb18.size
  replace hst0 := hst0.keep hb18
  replace hst2 := hst2.keep hb18
  replace kC := kC.keep hb18
  replace kO := kO.keep hb18
  replace hstA := hstA.keep hb18
  replace kA := kA.keep hb18
  replace hstB := hstB.keep hb18
  replace kB := kB.keep hb18
  replace hstD := hstD.keep hb18
  replace kD := kD.keep hb18
  replace hstH := hstH.keep hb18
  replace kH := kH.keep hb18
  replace hstK := hstK.keep hb18
  replace kK := kK.keep hb18
  replace hstL := hstL.keep hb18
  replace kL := kL.keep hb18
  replace hstP := hstP.keep hb18
  replace kP := kP.keep hb18
  replace kQ := kQ.keep hb18
  have hY18 := hZ17.trans (hb18.mono hZ17.size)
  have zkC_18 : w.heap.size < w18.heap.size := by omega
  have zkO_18 : w.heap.size + 1 < w18.heap.size := by omega
  have zkA_18 : w2.heap.size < w18.heap.size := by omega
  have zkB_18 : w3.heap.size < w18.heap.size := by omega
  have zkD_18 : w4.heap.size < w18.heap.size := by omega
  have zkH_18 : w5.heap.size < w18.heap.size := by omega
  have zkK_18 : w6.heap.size < w18.heap.size := by omega
  have zkL_18 : w7.heap.size < w18.heap.size := by omega
  have zkP_18 : w8.heap.size < w18.heap.size := by omega
  have zkQ_18 : w9.heap.size < w18.heap.size := by omega
  have hZ18 : Below w.heap.size w w18 := hY18
  go_wp2_with fail
  refine (e1 _ _ hst0).mono ?_
  rintro e w19 ⟨rfl, hb19⟩
  obtain ⟨hc19, hf19⟩ := bcell hb19
  have hz19 := hb19.size
  replace hst0 := hst0.keep hb19
  replace hst2 := hst2.keep hb19
  replace kC := kC.keep hb19
  replace kO := kO.keep hb19
  replace hstA := hstA.keep hb19
  replace kA := kA.keep hb19
  replace hstB := hstB.keep hb19
  replace kB := kB.keep hb19
  replace hstD := hstD.keep hb19
  replace kD := kD.keep hb19
  replace hstH := hstH.keep hb19
  replace kH := kH.keep hb19
  replace hstK := hstK.keep hb19
  replace kK := kK.keep hb19
  replace hstL := hstL.keep hb19
  replace kL := kL.keep hb19
  replace hstP := hstP.keep hb19
  replace kP := kP.keep hb19
  replace kQ := kQ.keep hb19
  have hY19 := hZ18.trans (hb19.mono hZ18.size)
  have zkC_19 : w.heap.size < w19.heap.size := by omega
  have zkO_19 : w.heap.size + 1 < w19.heap.size := by omega
  have zkA_19 : w2.heap.size < w19.heap.size := by omega
  have zkB_19 : w3.heap.size < w19.heap.size := by omega
  have zkD_19 : w4.heap.size < w19.heap.size := by omega
  have zkH_19 : w5.heap.size < w19.heap.size := by omega
  have zkK_19 : w6.heap.size < w19.heap.size := by omega
  have zkL_19 : w7.heap.size < w19.heap.size := by omega
  have zkP_19 : w8.heap.size < w19.heap.size := by omega
  have zkQ_19 : w9.heap.size < w19.heap.size := by omega
  go_wp2
  go_ret
  exact ⟨rfl, hY19⟩

set_option maxRecDepth 100000 in
set_option maxHeartbeats 4000000 in
theorem tells_yes (w : World) (A0 : Option Addr) (c0 : Nat) (now mx : Int) (ls : List Lk) (hst0 : LkV w (.agg #[.int .i64 now, .int .i64 mx, .slice A0 ls.length c0]) now mx ls) (A2 : Option Addr) (c2 : Nat) (now2 mx2 : Int) (ls2 : List Lk) (hst2 : LkV w (.agg #[.int .i64 now2, .int .i64 mx2, .slice A2 ls2.length c2]) now2 mx2 ls2) (i who ver : Int) (h30 : ls.length ≤ 30) (h31 : ls2.length ≤ 30) (eA eD nT rT eT : Int) (lsA lsD : List Lk) (hA : takeL now mx ls i who = (eA, lsA)) (hD : giveL now mx ls i who ver = (eD, lsD)) (hT : tickL now mx ls = (nT, rT, eT)) (lsN : List Lk) (cN : ∀ W : World, Calls Try.prog 17 #[.int .i64 i, .int .i64 ver] W fun e w' => ∃ v', e = .returned (.tuple #[v', .bool true]) ∧ LkO w' W.heap.size v' 0 ver lsN ∧ Below W.heap.size W w')
    (rN : ∀ W : World, Calls Try.prog 18 #[.int .i64 i, .int .i64 ver] W fun e w' => ∃ v', e = .returned (.tuple #[v', .bool true]) ∧ LkV w' v' 0 ver lsN ∧ Below W.heap.size W w') :
    Calls Try.prog 3 #[.agg #[.int .i64 now, .int .i64 mx, .slice A0 ls.length c0], .agg #[.int .i64 now2, .int .i64 mx2, .slice A2 ls2.length c2], .int .i64 i, .int .i64 who, .int .i64 ver] w fun e w' => e = .returned (.bool true) ∧ Below w.heap.size w w' := by
  have h30' : ¬ (30 : Int) < (ls.length : Int) := by omega
  have h31' : ¬ (30 : Int) < (ls2.length : Int) := by omega
  have cA := fun v W hs => Take_any v now mx i who ls W hs (by omega)
  rw [hA] at cA
  have rA := fun v W hs => RTake_any v now mx i who ls W hs (by omega)
  rw [hA] at rA
  have cD := fun v W hs => Give_any v now mx i who ver ls W hs (by omega)
  rw [hD] at cD
  have rD := fun v W hs => RGive_any v now mx i who ver ls W hs (by omega)
  rw [hD] at rD
  have cT := fun v W hs => Tick_any v now mx ls W hs (by omega)
  rw [hT] at cT
  have rT := fun v W hs => RTick_any v now mx ls W hs
  rw [hT] at rT
  have sA := fun n m xs v1 v2 W h1 h2 => RSame_any v1 v2 n m n m xs xs W h1 h2
  simp only [sameL_refl] at sA
  have m1 := fun sv W h => lmay_any now mx sv ls W h
  have m2 := fun sv W h => rmay_any now mx sv ls W h
  have s1 := fun v1 v2 W h1 h2 => LSame_any v1 v2 now mx now2 mx2 ls ls2 W h1 h2
  have s2 := fun v1 v2 W h1 h2 => RSame_any v1 v2 now mx now2 mx2 ls ls2 W h1 h2
  have e1 := fun v W hs => Sees_any v now mx i ver who ls W hs
  have e2 := fun v W hs => RSees_any v now mx i ver who ls W hs
  generalize mayL now mx ls = q1 at m1 m2
  generalize sameL now mx ls now2 mx2 ls2 = q2 at s1 s2
  generalize seesL now mx ls i ver who = q3 at e1 e2
  clear hA hD hT h30 h31
  go_enter Try.func3, Try.ntmps3
  have hA0 := (((Below.refl w.heap.size w).alloc (Nat.le_refl _) (.cells #[.int .i64 now, .int .i64 mx, .slice A0 ls.length c0] 24)).alloc (by simp) (.cells #[.int .i64 now2, .int .i64 mx2, .slice A2 ls2.length c2] 24))
  replace hst0 := hst0.keep hA0
  replace hst2 := hst2.keep hA0
  have kC := (Blk.new_ w 24 #[.int .i64 now, .int .i64 mx, .slice A0 ls.length c0] (w.heap.size) (by simp)).alloc (.cells #[.int .i64 now2, .int .i64 mx2, .slice A2 ls2.length c2] 24)
  have kO := Blk.new_ (w.alloc (.cells #[.int .i64 now, .int .i64 mx, .slice A0 ls.length c0] 24)) 24 #[.int .i64 now2, .int .i64 mx2, .slice A2 ls2.length c2] (w.heap.size + 1) (by simp)
  have hZ0 : Below w.heap.size w _ := hA0
  go_wp2_with fail
  refine (awake_any _).mono ?_
  rintro e w1 ⟨rfl, hb1⟩
  obtain ⟨hc1, hf1⟩ := bcell hb1
  have hz1 := hb1.size
  simp at hz1
  replace hst0 := hst0.keep hb1
  replace hst2 := hst2.keep hb1
  replace kC := kC.keep hb1
  replace kO := kO.keep hb1
  have hY1 := hZ0.trans (hb1.mono hZ0.size)
  have zkC_1 : w.heap.size < w1.heap.size := by omega
  have zkO_1 : w.heap.size + 1 < w1.heap.size := by omega
  have hZ1 : Below w.heap.size w w1 := hY1
  go_wp2_with fail
  refine (cA _ _ hst0).mono ?_
  rintro e w2 ⟨v2, rfl, hstA, hb2⟩
  obtain ⟨hc2, hf2⟩ := bcell hb2
  have hz2 := hb2.size
  replace hst0 := hst0.keep hb2
  replace hst2 := hst2.keep hb2
  replace kC := kC.keep hb2
  replace kO := kO.keep hb2
  have hY2 := hZ1.trans (hb2.mono hZ1.size)
  have zkC_2 : w.heap.size < w2.heap.size := by omega
  have zkO_2 : w.heap.size + 1 < w2.heap.size := by omega
  replace hstA := hstA.to
  try dsimp only at hstA
  obtain ⟨AA, dA, rfl, hstA⟩ := hstA.form
  have hA2 := ((Below.refl w2.heap.size w2).alloc (Nat.le_refl _) (.cells #[.int .i64 now, .int .i64 mx, .slice AA lsA.length dA] 24))
  replace hst0 := hst0.keep hA2
  replace hst2 := hst2.keep hA2
  replace kC := kC.keep hA2
  replace kO := kO.keep hA2
  replace hstA := hstA.keep hA2
  have kA := Blk.new_ w2 24 #[.int .i64 now, .int .i64 mx, .slice AA lsA.length dA] (w2.heap.size) (by simp)
  have hZ2 : Below w.heap.size w _ := hY2.trans (hA2.mono hY2.size)
  go_wp2_with fail
  refine (rA _ _ hst0).mono ?_
  rintro e w3 ⟨v3, rfl, hstB, hb3⟩
  obtain ⟨hc3, hf3⟩ := bcell hb3
  have hz3 := hb3.size
  simp at hz3
  replace hst0 := hst0.keep hb3
  replace hst2 := hst2.keep hb3
  replace kC := kC.keep hb3
  replace kO := kO.keep hb3
  replace hstA := hstA.keep hb3
  replace kA := kA.keep hb3
  have hY3 := hZ2.trans (hb3.mono hZ2.size)
  have zkC_3 : w.heap.size < w3.heap.size := by omega
  have zkO_3 : w.heap.size + 1 < w3.heap.size := by omega
  have zkA_3 : w2.heap.size < w3.heap.size := by omega
  try dsimp only at hstB
  obtain ⟨AB, dB, rfl, hstB⟩ := hstB.form
  have hA3 := ((Below.refl w3.heap.size w3).alloc (Nat.le_refl _) (.cells #[.int .i64 now, .int .i64 mx, .slice AB lsA.length dB] 24))
  replace hst0 := hst0.keep hA3
  replace hst2 := hst2.keep hA3
  replace kC := kC.keep hA3
  replace kO := kO.keep hA3
  replace hstA := hstA.keep hA3
  replace kA := kA.keep hA3
  replace hstB := hstB.keep hA3
  have kB := Blk.new_ w3 24 #[.int .i64 now, .int .i64 mx, .slice AB lsA.length dB] (w3.heap.size) (by simp)
  have hZ3 : Below w.heap.size w _ := hY3.trans (hA3.mono hY3.size)
  go_wp2_with fail
  refine (cD _ _ hst0).mono ?_
  rintro e w4 ⟨v4, rfl, hstD, hb4⟩
  obtain ⟨hc4, hf4⟩ := bcell hb4
  have hz4 := hb4.size
  simp at hz4
  replace hst0 := hst0.keep hb4
  replace hst2 := hst2.keep hb4
  replace kC := kC.keep hb4
  replace kO := kO.keep hb4
  replace hstA := hstA.keep hb4
  replace kA := kA.keep hb4
  replace hstB := hstB.keep hb4
  replace kB := kB.keep hb4
  have hY4 := hZ3.trans (hb4.mono hZ3.size)
  have zkC_4 : w.heap.size < w4.heap.size := by omega
  have zkO_4 : w.heap.size + 1 < w4.heap.size := by omega
  have zkA_4 : w2.heap.size < w4.heap.size := by omega
  have zkB_4 : w3.heap.size < w4.heap.size := by omega
  replace hstD := hstD.to
  try dsimp only at hstD
  obtain ⟨AD, dD, rfl, hstD⟩ := hstD.form
  have hA4 := ((Below.refl w4.heap.size w4).alloc (Nat.le_refl _) (.cells #[.int .i64 now, .int .i64 mx, .slice AD lsD.length dD] 24))
  replace hst0 := hst0.keep hA4
  replace hst2 := hst2.keep hA4
  replace kC := kC.keep hA4
  replace kO := kO.keep hA4
  replace hstA := hstA.keep hA4
  replace kA := kA.keep hA4
  replace hstB := hstB.keep hA4
  replace kB := kB.keep hA4
  replace hstD := hstD.keep hA4
  have kD := Blk.new_ w4 24 #[.int .i64 now, .int .i64 mx, .slice AD lsD.length dD] (w4.heap.size) (by simp)
  have hZ4 : Below w.heap.size w _ := hY4.trans (hA4.mono hY4.size)
  go_wp2_with fail
  refine (rD _ _ hst0).mono ?_
  rintro e w5 ⟨v5, rfl, hstH, hb5⟩
  obtain ⟨hc5, hf5⟩ := bcell hb5
  have hz5 := hb5.size
  simp at hz5
  replace hst0 := hst0.keep hb5
  replace hst2 := hst2.keep hb5
  replace kC := kC.keep hb5
  replace kO := kO.keep hb5
  replace hstA := hstA.keep hb5
  replace kA := kA.keep hb5
  replace hstB := hstB.keep hb5
  replace kB := kB.keep hb5
  replace hstD := hstD.keep hb5
  replace kD := kD.keep hb5
  have hY5 := hZ4.trans (hb5.mono hZ4.size)
  have zkC_5 : w.heap.size < w5.heap.size := by omega
  have zkO_5 : w.heap.size + 1 < w5.heap.size := by omega
  have zkA_5 : w2.heap.size < w5.heap.size := by omega
  have zkB_5 : w3.heap.size < w5.heap.size := by omega
  have zkD_5 : w4.heap.size < w5.heap.size := by omega
  try dsimp only at hstH
  obtain ⟨AH, dH, rfl, hstH⟩ := hstH.form
  have hA5 := ((Below.refl w5.heap.size w5).alloc (Nat.le_refl _) (.cells #[.int .i64 now, .int .i64 mx, .slice AH lsD.length dH] 24))
  replace hst0 := hst0.keep hA5
  replace hst2 := hst2.keep hA5
  replace kC := kC.keep hA5
  replace kO := kO.keep hA5
  replace hstA := hstA.keep hA5
  replace kA := kA.keep hA5
  replace hstB := hstB.keep hA5
  replace kB := kB.keep hA5
  replace hstD := hstD.keep hA5
  replace kD := kD.keep hA5
  replace hstH := hstH.keep hA5
  have kH := Blk.new_ w5 24 #[.int .i64 now, .int .i64 mx, .slice AH lsD.length dH] (w5.heap.size) (by simp)
  have hZ5 : Below w.heap.size w _ := hY5.trans (hA5.mono hY5.size)
  go_wp2_with fail
  refine (cT _ _ hst0).mono ?_
  rintro e w6 ⟨v6, rfl, hstK, hb6⟩
  obtain ⟨hc6, hf6⟩ := bcell hb6
  have hz6 := hb6.size
  simp at hz6
  replace hst0 := hst0.keep hb6
  replace hst2 := hst2.keep hb6
  replace kC := kC.keep hb6
  replace kO := kO.keep hb6
  replace hstA := hstA.keep hb6
  replace kA := kA.keep hb6
  replace hstB := hstB.keep hb6
  replace kB := kB.keep hb6
  replace hstD := hstD.keep hb6
  replace kD := kD.keep hb6
  replace hstH := hstH.keep hb6
  replace kH := kH.keep hb6
  have hY6 := hZ5.trans (hb6.mono hZ5.size)
  have zkC_6 : w.heap.size < w6.heap.size := by omega
  have zkO_6 : w.heap.size + 1 < w6.heap.size := by omega
  have zkA_6 : w2.heap.size < w6.heap.size := by omega
  have zkB_6 : w3.heap.size < w6.heap.size := by omega
  have zkD_6 : w4.heap.size < w6.heap.size := by omega
  have zkH_6 : w5.heap.size < w6.heap.size := by omega
  replace hstK := hstK.to
  try dsimp only at hstK
  obtain ⟨AK, dK, rfl, hstK⟩ := hstK.form
  have hA6 := ((Below.refl w6.heap.size w6).alloc (Nat.le_refl _) (.cells #[.int .i64 nT, .int .i64 mx, .slice AK ls.length dK] 24))
  replace hst0 := hst0.keep hA6
  replace hst2 := hst2.keep hA6
  replace kC := kC.keep hA6
  replace kO := kO.keep hA6
  replace hstA := hstA.keep hA6
  replace kA := kA.keep hA6
  replace hstB := hstB.keep hA6
  replace kB := kB.keep hA6
  replace hstD := hstD.keep hA6
  replace kD := kD.keep hA6
  replace hstH := hstH.keep hA6
  replace kH := kH.keep hA6
  replace hstK := hstK.keep hA6
  have kK := Blk.new_ w6 24 #[.int .i64 nT, .int .i64 mx, .slice AK ls.length dK] (w6.heap.size) (by simp)
  have hZ6 : Below w.heap.size w _ := hY6.trans (hA6.mono hY6.size)
  go_wp2_with fail
  refine (rT _ _ hst0).mono ?_
  rintro e w7 ⟨v7, rfl, hstL, hb7⟩
  obtain ⟨hc7, hf7⟩ := bcell hb7
  have hz7 := hb7.size
  simp at hz7
  replace hst0 := hst0.keep hb7
  replace hst2 := hst2.keep hb7
  replace kC := kC.keep hb7
  replace kO := kO.keep hb7
  replace hstA := hstA.keep hb7
  replace kA := kA.keep hb7
  replace hstB := hstB.keep hb7
  replace kB := kB.keep hb7
  replace hstD := hstD.keep hb7
  replace kD := kD.keep hb7
  replace hstH := hstH.keep hb7
  replace kH := kH.keep hb7
  replace hstK := hstK.keep hb7
  replace kK := kK.keep hb7
  have hY7 := hZ6.trans (hb7.mono hZ6.size)
  have zkC_7 : w.heap.size < w7.heap.size := by omega
  have zkO_7 : w.heap.size + 1 < w7.heap.size := by omega
  have zkA_7 : w2.heap.size < w7.heap.size := by omega
  have zkB_7 : w3.heap.size < w7.heap.size := by omega
  have zkD_7 : w4.heap.size < w7.heap.size := by omega
  have zkH_7 : w5.heap.size < w7.heap.size := by omega
  have zkK_7 : w6.heap.size < w7.heap.size := by omega
  try dsimp only at hstL
  obtain ⟨AL, dL, rfl, hstL⟩ := hstL.form
  have hA7 := ((Below.refl w7.heap.size w7).alloc (Nat.le_refl _) (.cells #[.int .i64 nT, .int .i64 mx, .slice AL ls.length dL] 24))
  replace hst0 := hst0.keep hA7
  replace hst2 := hst2.keep hA7
  replace kC := kC.keep hA7
  replace kO := kO.keep hA7
  replace hstA := hstA.keep hA7
  replace kA := kA.keep hA7
  replace hstB := hstB.keep hA7
  replace kB := kB.keep hA7
  replace hstD := hstD.keep hA7
  replace kD := kD.keep hA7
  replace hstH := hstH.keep hA7
  replace kH := kH.keep hA7
  replace hstK := hstK.keep hA7
  replace kK := kK.keep hA7
  replace hstL := hstL.keep hA7
  have kL := Blk.new_ w7 24 #[.int .i64 nT, .int .i64 mx, .slice AL ls.length dL] (w7.heap.size) (by simp)
  have hZ7 : Below w.heap.size w _ := hY7.trans (hA7.mono hY7.size)
  go_wp2_with fail
  refine (cN _).mono ?_
  rintro e w8 ⟨v8, rfl, hstP, hb8⟩
  obtain ⟨hc8, hf8⟩ := bcell hb8
  have hz8 := hb8.size
  simp at hz8
  replace hst0 := hst0.keep hb8
  replace hst2 := hst2.keep hb8
  replace kC := kC.keep hb8
  replace kO := kO.keep hb8
  replace hstA := hstA.keep hb8
  replace kA := kA.keep hb8
  replace hstB := hstB.keep hb8
  replace kB := kB.keep hb8
  replace hstD := hstD.keep hb8
  replace kD := kD.keep hb8
  replace hstH := hstH.keep hb8
  replace kH := kH.keep hb8
  replace hstK := hstK.keep hb8
  replace kK := kK.keep hb8
  replace hstL := hstL.keep hb8
  replace kL := kL.keep hb8
  have hY8 := hZ7.trans (hb8.mono hZ7.size)
  have zkC_8 : w.heap.size < w8.heap.size := by omega
  have zkO_8 : w.heap.size + 1 < w8.heap.size := by omega
  have zkA_8 : w2.heap.size < w8.heap.size := by omega
  have zkB_8 : w3.heap.size < w8.heap.size := by omega
  have zkD_8 : w4.heap.size < w8.heap.size := by omega
  have zkH_8 : w5.heap.size < w8.heap.size := by omega
  have zkK_8 : w6.heap.size < w8.heap.size := by omega
  have zkL_8 : w7.heap.size < w8.heap.size := by omega
  replace hstP := hstP.to
  try dsimp only at hstP
  obtain ⟨AP, dP, rfl, hstP⟩ := hstP.form
  have hA8 := ((Below.refl w8.heap.size w8).alloc (Nat.le_refl _) (.cells #[.int .i64 0, .int .i64 ver, .slice AP lsN.length dP] 24))
  replace hst0 := hst0.keep hA8
  replace hst2 := hst2.keep hA8
  replace kC := kC.keep hA8
  replace kO := kO.keep hA8
  replace hstA := hstA.keep hA8
  replace kA := kA.keep hA8
  replace hstB := hstB.keep hA8
  replace kB := kB.keep hA8
  replace hstD := hstD.keep hA8
  replace kD := kD.keep hA8
  replace hstH := hstH.keep hA8
  replace kH := kH.keep hA8
  replace hstK := hstK.keep hA8
  replace kK := kK.keep hA8
  replace hstL := hstL.keep hA8
  replace kL := kL.keep hA8
  replace hstP := hstP.keep hA8
  have kP := Blk.new_ w8 24 #[.int .i64 0, .int .i64 ver, .slice AP lsN.length dP] (w8.heap.size) (by simp)
  have hZ8 : Below w.heap.size w _ := hY8.trans (hA8.mono hY8.size)
  go_wp2_with fail
  refine (rN _).mono ?_
  rintro e w9 ⟨v9, rfl, hstQ, hb9⟩
  obtain ⟨hc9, hf9⟩ := bcell hb9
  have hz9 := hb9.size
  simp at hz9
  replace hst0 := hst0.keep hb9
  replace hst2 := hst2.keep hb9
  replace kC := kC.keep hb9
  replace kO := kO.keep hb9
  replace hstA := hstA.keep hb9
  replace kA := kA.keep hb9
  replace hstB := hstB.keep hb9
  replace kB := kB.keep hb9
  replace hstD := hstD.keep hb9
  replace kD := kD.keep hb9
  replace hstH := hstH.keep hb9
  replace kH := kH.keep hb9
  replace hstK := hstK.keep hb9
  replace kK := kK.keep hb9
  replace hstL := hstL.keep hb9
  replace kL := kL.keep hb9
  replace hstP := hstP.keep hb9
  replace kP := kP.keep hb9
  have hY9 := hZ8.trans (hb9.mono hZ8.size)
  have zkC_9 : w.heap.size < w9.heap.size := by omega
  have zkO_9 : w.heap.size + 1 < w9.heap.size := by omega
  have zkA_9 : w2.heap.size < w9.heap.size := by omega
  have zkB_9 : w3.heap.size < w9.heap.size := by omega
  have zkD_9 : w4.heap.size < w9.heap.size := by omega
  have zkH_9 : w5.heap.size < w9.heap.size := by omega
  have zkK_9 : w6.heap.size < w9.heap.size := by omega
  have zkL_9 : w7.heap.size < w9.heap.size := by omega
  have zkP_9 : w8.heap.size < w9.heap.size := by omega
  try dsimp only at hstQ
  obtain ⟨AQ, dQ, rfl, hstQ⟩ := hstQ.form
  have hA9 := ((Below.refl w9.heap.size w9).alloc (Nat.le_refl _) (.cells #[.int .i64 0, .int .i64 ver, .slice AQ lsN.length dQ] 24))
  replace hst0 := hst0.keep hA9
  replace hst2 := hst2.keep hA9
  replace kC := kC.keep hA9
  replace kO := kO.keep hA9
  replace hstA := hstA.keep hA9
  replace kA := kA.keep hA9
  replace hstB := hstB.keep hA9
  replace kB := kB.keep hA9
  replace hstD := hstD.keep hA9
  replace kD := kD.keep hA9
  replace hstH := hstH.keep hA9
  replace kH := kH.keep hA9
  replace hstK := hstK.keep hA9
  replace kK := kK.keep hA9
  replace hstL := hstL.keep hA9
  replace kL := kL.keep hA9
  replace hstP := hstP.keep hA9
  replace kP := kP.keep hA9
  replace hstQ := hstQ.keep hA9
  have kQ := Blk.new_ w9 24 #[.int .i64 0, .int .i64 ver, .slice AQ lsN.length dQ] (w9.heap.size) (by simp)
  have hZ9 : Below w.heap.size w _ := hY9.trans (hA9.mono hY9.size)
  go_wp2_with fail
  refine (sA _ _ _ _ _ _ hstA hstB).mono ?_
  rintro e w10 ⟨rfl, hb10⟩
  obtain ⟨hc10, hf10⟩ := bcell hb10
  have hz10 := hb10.size
  simp at hz10
  replace hst0 := hst0.keep hb10
  replace hst2 := hst2.keep hb10
  replace kC := kC.keep hb10
  replace kO := kO.keep hb10
  replace hstA := hstA.keep hb10
  replace kA := kA.keep hb10
  replace hstB := hstB.keep hb10
  replace kB := kB.keep hb10
  replace hstD := hstD.keep hb10
  replace kD := kD.keep hb10
  replace hstH := hstH.keep hb10
  replace kH := kH.keep hb10
  replace hstK := hstK.keep hb10
  replace kK := kK.keep hb10
  replace hstL := hstL.keep hb10
  replace kL := kL.keep hb10
  replace hstP := hstP.keep hb10
  replace kP := kP.keep hb10
  replace hstQ := hstQ.keep hb10
  replace kQ := kQ.keep hb10
  have hY10 := hZ9.trans (hb10.mono hZ9.size)
  have zkC_10 : w.heap.size < w10.heap.size := by omega
  have zkO_10 : w.heap.size + 1 < w10.heap.size := by omega
  have zkA_10 : w2.heap.size < w10.heap.size := by omega
  have zkB_10 : w3.heap.size < w10.heap.size := by omega
  have zkD_10 : w4.heap.size < w10.heap.size := by omega
  have zkH_10 : w5.heap.size < w10.heap.size := by omega
  have zkK_10 : w6.heap.size < w10.heap.size := by omega
  have zkL_10 : w7.heap.size < w10.heap.size := by omega
  have zkP_10 : w8.heap.size < w10.heap.size := by omega
  have zkQ_10 : w9.heap.size < w10.heap.size := by omega
  have hZ10 : Below w.heap.size w w10 := hY10
  go_wp2_with fail
  refine (sA _ _ _ _ _ _ hstD hstH).mono ?_
  rintro e w11 ⟨rfl, hb11⟩
  obtain ⟨hc11, hf11⟩ := bcell hb11
  have hz11 := hb11.size
  replace hst0 := hst0.keep hb11
  replace hst2 := hst2.keep hb11
  replace kC := kC.keep hb11
  replace kO := kO.keep hb11
  replace hstA := hstA.keep hb11
  replace kA := kA.keep hb11
  replace hstB := hstB.keep hb11
  replace kB := kB.keep hb11
  replace hstD := hstD.keep hb11
  replace kD := kD.keep hb11
  replace hstH := hstH.keep hb11
  replace kH := kH.keep hb11
  replace hstK := hstK.keep hb11
  replace kK := kK.keep hb11
  replace hstL := hstL.keep hb11
  replace kL := kL.keep hb11
  replace hstP := hstP.keep hb11
  replace kP := kP.keep hb11
  replace hstQ := hstQ.keep hb11
  replace kQ := kQ.keep hb11
  have hY11 := hZ10.trans (hb11.mono hZ10.size)
  have zkC_11 : w.heap.size < w11.heap.size := by omega
  have zkO_11 : w.heap.size + 1 < w11.heap.size := by omega
  have zkA_11 : w2.heap.size < w11.heap.size := by omega
  have zkB_11 : w3.heap.size < w11.heap.size := by omega
  have zkD_11 : w4.heap.size < w11.heap.size := by omega
  have zkH_11 : w5.heap.size < w11.heap.size := by omega
  have zkK_11 : w6.heap.size < w11.heap.size := by omega
  have zkL_11 : w7.heap.size < w11.heap.size := by omega
  have zkP_11 : w8.heap.size < w11.heap.size := by omega
  have zkQ_11 : w9.heap.size < w11.heap.size := by omega
  have hZ11 : Below w.heap.size w w11 := hY11
  go_wp2_with fail
  refine (sA _ _ _ _ _ _ hstK hstL).mono ?_
  rintro e w12 ⟨rfl, hb12⟩
  obtain ⟨hc12, hf12⟩ := bcell hb12
  have hz12 := hb12.size
  replace hst0 := hst0.keep hb12
  replace hst2 := hst2.keep hb12
  replace kC := kC.keep hb12
  replace kO := kO.keep hb12
  replace hstA := hstA.keep hb12
  replace kA := kA.keep hb12
  replace hstB := hstB.keep hb12
  replace kB := kB.keep hb12
  replace hstD := hstD.keep hb12
  replace kD := kD.keep hb12
  replace hstH := hstH.keep hb12
  replace kH := kH.keep hb12
  replace hstK := hstK.keep hb12
  replace kK := kK.keep hb12
  replace hstL := hstL.keep hb12
  replace kL := kL.keep hb12
  replace hstP := hstP.keep hb12
  replace kP := kP.keep hb12
  replace hstQ := hstQ.keep hb12
  replace kQ := kQ.keep hb12
  have hY12 := hZ11.trans (hb12.mono hZ11.size)
  have zkC_12 : w.heap.size < w12.heap.size := by omega
  have zkO_12 : w.heap.size + 1 < w12.heap.size := by omega
  have zkA_12 : w2.heap.size < w12.heap.size := by omega
  have zkB_12 : w3.heap.size < w12.heap.size := by omega
  have zkD_12 : w4.heap.size < w12.heap.size := by omega
  have zkH_12 : w5.heap.size < w12.heap.size := by omega
  have zkK_12 : w6.heap.size < w12.heap.size := by omega
  have zkL_12 : w7.heap.size < w12.heap.size := by omega
  have zkP_12 : w8.heap.size < w12.heap.size := by omega
  have zkQ_12 : w9.heap.size < w12.heap.size := by omega
  have hZ12 : Below w.heap.size w w12 := hY12
  go_wp2_with fail
  refine (sA _ _ _ _ _ _ hstP hstQ).mono ?_
  rintro e w13 ⟨rfl, hb13⟩
  obtain ⟨hc13, hf13⟩ := bcell hb13
  have hz13 := hb13.size
  replace hst0 := hst0.keep hb13
  replace hst2 := hst2.keep hb13
  replace kC := kC.keep hb13
  replace kO := kO.keep hb13
  replace hstA := hstA.keep hb13
  replace kA := kA.keep hb13
  replace hstB := hstB.keep hb13
  replace kB := kB.keep hb13
  replace hstD := hstD.keep hb13
  replace kD := kD.keep hb13
  replace hstH := hstH.keep hb13
  replace kH := kH.keep hb13
  replace hstK := hstK.keep hb13
  replace kK := kK.keep hb13
  replace hstL := hstL.keep hb13
  replace kL := kL.keep hb13
  replace hstP := hstP.keep hb13
  replace kP := kP.keep hb13
  replace hstQ := hstQ.keep hb13
  replace kQ := kQ.keep hb13
  have hY13 := hZ12.trans (hb13.mono hZ12.size)
  have zkC_13 : w.heap.size < w13.heap.size := by omega
  have zkO_13 : w.heap.size + 1 < w13.heap.size := by omega
  have zkA_13 : w2.heap.size < w13.heap.size := by omega
  have zkB_13 : w3.heap.size < w13.heap.size := by omega
  have zkD_13 : w4.heap.size < w13.heap.size := by omega
  have zkH_13 : w5.heap.size < w13.heap.size := by omega
  have zkK_13 : w6.heap.size < w13.heap.size := by omega
  have zkL_13 : w7.heap.size < w13.heap.size := by omega
  have zkP_13 : w8.heap.size < w13.heap.size := by omega
  have zkQ_13 : w9.heap.size < w13.heap.size := by omega
  have hZ13 : Below w.heap.size w w13 := hY13
  go_wp2_with fail
  refine (m2 _ _ hst0.sl).mono ?_
  rintro e w14 ⟨rfl, hb14⟩
  obtain ⟨hc14, hf14⟩ := bcell hb14
  have hz14 := hb14.size
  replace hst0 := hst0.keep hb14
  replace hst2 := hst2.keep hb14
  replace kC := kC.keep hb14
  replace kO := kO.keep hb14
  replace hstA := hstA.keep hb14
  replace kA := kA.keep hb14
  replace hstB := hstB.keep hb14
  replace kB := kB.keep hb14
  replace hstD := hstD.keep hb14
  replace kD := kD.keep hb14
  replace hstH := hstH.keep hb14
  replace kH := kH.keep hb14
  replace hstK := hstK.keep hb14
  replace kK := kK.keep hb14
  replace hstL := hstL.keep hb14
  replace kL := kL.keep hb14
  replace hstP := hstP.keep hb14
  replace kP := kP.keep hb14
  replace hstQ := hstQ.keep hb14
  replace kQ := kQ.keep hb14
  have hY14 := hZ13.trans (hb14.mono hZ13.size)
  have zkC_14 : w.heap.size < w14.heap.size := by omega
  have zkO_14 : w.heap.size + 1 < w14.heap.size := by omega
  have zkA_14 : w2.heap.size < w14.heap.size := by omega
  have zkB_14 : w3.heap.size < w14.heap.size := by omega
  have zkD_14 : w4.heap.size < w14.heap.size := by omega
  have zkH_14 : w5.heap.size < w14.heap.size := by omega
  have zkK_14 : w6.heap.size < w14.heap.size := by omega
  have zkL_14 : w7.heap.size < w14.heap.size := by omega
  have zkP_14 : w8.heap.size < w14.heap.size := by omega
  have zkQ_14 : w9.heap.size < w14.heap.size := by omega
  have hZ14 : Below w.heap.size w w14 := hY14
  go_wp2_with fail
  refine (s2 _ _ _ hst0 hst2).mono ?_
  rintro e w15 ⟨rfl, hb15⟩
  obtain ⟨hc15, hf15⟩ := bcell hb15
  have hz15 := hb15.size
  replace hst0 := hst0.keep hb15
  replace hst2 := hst2.keep hb15
  replace kC := kC.keep hb15
  replace kO := kO.keep hb15
  replace hstA := hstA.keep hb15
  replace kA := kA.keep hb15
  replace hstB := hstB.keep hb15
  replace kB := kB.keep hb15
  replace hstD := hstD.keep hb15
  replace kD := kD.keep hb15
  replace hstH := hstH.keep hb15
  replace kH := kH.keep hb15
  replace hstK := hstK.keep hb15
  replace kK := kK.keep hb15
  replace hstL := hstL.keep hb15
  replace kL := kL.keep hb15
  replace hstP := hstP.keep hb15
  replace kP := kP.keep hb15
  replace hstQ := hstQ.keep hb15
  replace kQ := kQ.keep hb15
  have hY15 := hZ14.trans (hb15.mono hZ14.size)
  have zkC_15 : w.heap.size < w15.heap.size := by omega
  have zkO_15 : w.heap.size + 1 < w15.heap.size := by omega
  have zkA_15 : w2.heap.size < w15.heap.size := by omega
  have zkB_15 : w3.heap.size < w15.heap.size := by omega
  have zkD_15 : w4.heap.size < w15.heap.size := by omega
  have zkH_15 : w5.heap.size < w15.heap.size := by omega
  have zkK_15 : w6.heap.size < w15.heap.size := by omega
  have zkL_15 : w7.heap.size < w15.heap.size := by omega
  have zkP_15 : w8.heap.size < w15.heap.size := by omega
  have zkQ_15 : w9.heap.size < w15.heap.size := by omega
  have hZ15 : Below w.heap.size w w15 := hY15
  go_wp2_with fail
  refine (e2 _ _ hst0).mono ?_
  rintro e w16 ⟨rfl, hb16⟩
  obtain ⟨hc16, hf16⟩ := bcell hb16
  have hz16 := hb16.size
  replace hst0 := hst0.keep hb16
  replace hst2 := hst2.keep hb16
  replace kC := kC.keep hb16
  replace kO := kO.keep hb16
  replace hstA := hstA.keep hb16
  replace kA := kA.keep hb16
  replace hstB := hstB.keep hb16
  replace kB := kB.keep hb16
  replace hstD := hstD.keep hb16
  replace kD := kD.keep hb16
  replace hstH := hstH.keep hb16
  replace kH := kH.keep hb16
  replace hstK := hstK.keep hb16
  replace kK := kK.keep hb16
  replace hstL := hstL.keep hb16
  replace kL := kL.keep hb16
  replace hstP := hstP.keep hb16
  replace kP := kP.keep hb16
  replace hstQ := hstQ.keep hb16
  replace kQ := kQ.keep hb16
  have hY16 := hZ15.trans (hb16.mono hZ15.size)
  have zkC_16 : w.heap.size < w16.heap.size := by omega
  have zkO_16 : w.heap.size + 1 < w16.heap.size := by omega
  have zkA_16 : w2.heap.size < w16.heap.size := by omega
  have zkB_16 : w3.heap.size < w16.heap.size := by omega
  have zkD_16 : w4.heap.size < w16.heap.size := by omega
  have zkH_16 : w5.heap.size < w16.heap.size := by omega
  have zkK_16 : w6.heap.size < w16.heap.size := by omega
  have zkL_16 : w7.heap.size < w16.heap.size := by omega
  have zkP_16 : w8.heap.size < w16.heap.size := by omega
  have zkQ_16 : w9.heap.size < w16.heap.size := by omega
  have hZ16 : Below w.heap.size w w16 := hY16
  go_wp2_with fail
  refine (m1 _ _ hst0.sl).mono ?_
  rintro e w17 ⟨rfl, hb17⟩
  obtain ⟨hc17, hf17⟩ := bcell hb17
  have hz17 := hb17.size
  replace hst0 := hst0.keep hb17
  replace hst2 := hst2.keep hb17
  replace kC := kC.keep hb17
  replace kO := kO.keep hb17
  replace hstA := hstA.keep hb17
  replace kA := kA.keep hb17
  replace hstB := hstB.keep hb17
  replace kB := kB.keep hb17
  replace hstD := hstD.keep hb17
  replace kD := kD.keep hb17
  replace hstH := hstH.keep hb17
  replace kH := kH.keep hb17
  replace hstK := hstK.keep hb17
  replace kK := kK.keep hb17
  replace hstL := hstL.keep hb17
  replace kL := kL.keep hb17
  replace hstP := hstP.keep hb17
  replace kP := kP.keep hb17
  replace hstQ := hstQ.keep hb17
  replace kQ := kQ.keep hb17
  have hY17 := hZ16.trans (hb17.mono hZ16.size)
  have zkC_17 : w.heap.size < w17.heap.size := by omega
  have zkO_17 : w.heap.size + 1 < w17.heap.size := by omega
  have zkA_17 : w2.heap.size < w17.heap.size := by omega
  have zkB_17 : w3.heap.size < w17.heap.size := by omega
  have zkD_17 : w4.heap.size < w17.heap.size := by omega
  have zkH_17 : w5.heap.size < w17.heap.size := by omega
  have zkK_17 : w6.heap.size < w17.heap.size := by omega
  have zkL_17 : w7.heap.size < w17.heap.size := by omega
  have zkP_17 : w8.heap.size < w17.heap.size := by omega
  have zkQ_17 : w9.heap.size < w17.heap.size := by omega
  have hZ17 : Below w.heap.size w w17 := hY17
  go_wp2_with fail
  refine (s1 _ _ _ hst0 hst2).mono ?_
  rintro e w18 ⟨rfl, hb18⟩
  obtain ⟨hc18, hf18⟩ := bcell hb18
  have hz18 := hb18.size
  replace hst0 := hst0.keep hb18
  replace hst2 := hst2.keep hb18
  replace kC := kC.keep hb18
  replace kO := kO.keep hb18
  replace hstA := hstA.keep hb18
  replace kA := kA.keep hb18
  replace hstB := hstB.keep hb18
  replace kB := kB.keep hb18
  replace hstD := hstD.keep hb18
  replace kD := kD.keep hb18
  replace hstH := hstH.keep hb18
  replace kH := kH.keep hb18
  replace hstK := hstK.keep hb18
  replace kK := kK.keep hb18
  replace hstL := hstL.keep hb18
  replace kL := kL.keep hb18
  replace hstP := hstP.keep hb18
  replace kP := kP.keep hb18
  replace hstQ := hstQ.keep hb18
  replace kQ := kQ.keep hb18
  have hY18 := hZ17.trans (hb18.mono hZ17.size)
  have zkC_18 : w.heap.size < w18.heap.size := by omega
  have zkO_18 : w.heap.size + 1 < w18.heap.size := by omega
  have zkA_18 : w2.heap.size < w18.heap.size := by omega
  have zkB_18 : w3.heap.size < w18.heap.size := by omega
  have zkD_18 : w4.heap.size < w18.heap.size := by omega
  have zkH_18 : w5.heap.size < w18.heap.size := by omega
  have zkK_18 : w6.heap.size < w18.heap.size := by omega
  have zkL_18 : w7.heap.size < w18.heap.size := by omega
  have zkP_18 : w8.heap.size < w18.heap.size := by omega
  have zkQ_18 : w9.heap.size < w18.heap.size := by omega
  have hZ18 : Below w.heap.size w w18 := hY18
  go_wp2_with fail
  refine (e1 _ _ hst0).mono ?_
  rintro e w19 ⟨rfl, hb19⟩
  obtain ⟨hc19, hf19⟩ := bcell hb19
  have hz19 := hb19.size
  replace hst0 := hst0.keep hb19
  replace hst2 := hst2.keep hb19
  replace kC := kC.keep hb19
  replace kO := kO.keep hb19
  replace hstA := hstA.keep hb19
  replace kA := kA.keep hb19
  replace hstB := hstB.keep hb19
  replace kB := kB.keep hb19
  replace hstD := hstD.keep hb19
  replace kD := kD.keep hb19
  replace hstH := hstH.keep hb19
  replace kH := kH.keep hb19
  replace hstK := hstK.keep hb19
  replace kK := kK.keep hb19
  replace hstL := hstL.keep hb19
  replace kL := kL.keep hb19
  replace hstP := hstP.keep hb19
  replace kP := kP.keep hb19
  replace hstQ := hstQ.keep hb19
  replace kQ := kQ.keep hb19
  have hY19 := hZ18.trans (hb19.mono hZ18.size)
  have zkC_19 : w.heap.size < w19.heap.size := by omega
  have zkO_19 : w.heap.size + 1 < w19.heap.size := by omega
  have zkA_19 : w2.heap.size < w19.heap.size := by omega
  have zkB_19 : w3.heap.size < w19.heap.size := by omega
  have zkD_19 : w4.heap.size < w19.heap.size := by omega
  have zkH_19 : w5.heap.size < w19.heap.size := by omega
  have zkK_19 : w6.heap.size < w19.heap.size := by omega
  have zkL_19 : w7.heap.size < w19.heap.size := by omega
  have zkP_19 : w8.heap.size < w19.heap.size := by omega
  have zkQ_19 : w9.heap.size < w19.heap.size := by omega
  go_wp2
  go_ret
  exact ⟨rfl, hY19⟩

theorem lockTells_walk (w : World) (v0 : Value) (now mx : Int) (ls : List Lk) (hst0 : LkV w v0 now mx ls) (_wn : okI now) (_wm : okI mx) (_hok : ∀ q ∈ ls, lkOk q) (v1 : Value) (now2 mx2 : Int) (ls2 : List Lk) (hst2 : LkV w v1 now2 mx2 ls2) (_wn2 : okI now2) (_wm2 : okI mx2) (_hok2 : ∀ q ∈ ls2, lkOk q)
    (i : Int) (_w1 : (Lit.int .i64 i).wf = true) (who : Int) (_w2 : (Lit.int .i64 who).wf = true) (ver : Int) (_w3 : (Lit.int .i64 ver).wf = true) :
    Calls Try.prog 3 #[v0, v1, .int .i64 i, .int .i64 who, .int .i64 ver] w fun e w' => e = .returned (.bool true) ∧ Below w.heap.size w w' := by
  obtain ⟨A0, c0, rfl, hst0⟩ := hst0.form
  obtain ⟨A2, c2, rfl, hst2⟩ := hst2.form
  by_cases h30 : 30 < ls.length
  · exact tells_long w A0 c0 now mx ls hst0 A2 c2 now2 mx2 ls2 hst2 i who ver h30
  by_cases h31 : 30 < ls2.length
  · exact tells_long2 w A0 c0 now mx ls hst0 A2 c2 now2 mx2 ls2 hst2 i who ver (by omega) h31
  cases hN : newOk i ver with
  | false => exact tells_no w A0 c0 now mx ls hst0 A2 c2 now2 mx2 ls2 hst2 i who ver (by omega) (by omega) _ _ _ _ _ _ _ rfl rfl rfl hN
  | true =>
    simp [newOk] at hN
    obtain ⟨n, rfl⟩ := Int.eq_ofNat_of_zero_le (show 0 ≤ i by omega)
    exact tells_yes w A0 c0 now mx ls hst0 A2 c2 now2 mx2 ls2 hst2 n who ver (by omega) (by omega) _ _ _ _ _ _ _ rfl rfl rfl _ (fun W => LNew_yes n ver W (by omega) (by omega) (by omega) (by omega)) (fun W => RNew_yes n ver W (by omega) (by omega) (by omega) (by omega))

end Go.Proofs.Ytkmdifngljdpeaa
