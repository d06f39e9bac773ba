/- The walk of LockHeld. -/
import Derived.Test.YtkmdifngljdpeaaLkPlain
import Derived.Test.YtkmdifngljdpeaaLkOpen
namespace Go.Proofs.Ytkmdifngljdpeaa
open Go Go.RowKit
set_option linter.unusedVariables false

set_option maxRecDepth 100000 in
set_option maxHeartbeats 4000000 in
theorem held_long (w : World) (A0 : Option Addr) (c0 : Nat) (now mx : Int) (ls : List Lk) (hst0 : LkV w (.agg #[.int .i64 now, .int .i64 mx, .slice A0 ls.length c0]) now mx ls) (i who other ver : Int) (h30 : 30 < ls.length) :
    Calls Try.prog 4 #[.agg #[.int .i64 now, .int .i64 mx, .slice A0 ls.length c0], .int .i64 i, .int .i64 who, .int .i64 other, .int .i64 ver] w fun e w' => e = .returned (.bool true) ∧ Below w.heap.size w w' := by
  have h30' : (30 : Int) < (ls.length : Int) := by omega
  go_enter Try.func4, Try.ntmps4
  have hA0 := ((Below.refl w.heap.size w).alloc (Nat.le_refl _) (.cells #[.int .i64 now, .int .i64 mx, .slice A0 ls.length c0] 24))
  replace hst0 := hst0.keep hA0
  have kC := Blk.new_ w 24 #[.int .i64 now, .int .i64 mx, .slice A0 ls.length c0] (w.heap.size) (by simp)
  have hZ0 : Below w.heap.size w _ := hA0
  go_wp2_with fail
  refine (awake_any _).mono ?_
  rintro e w1 ⟨rfl, hb1⟩
  obtain ⟨hc1, hf1⟩ := bcell hb1
  have hz1 := hb1.size
  simp at hz1
  replace hst0 := hst0.keep hb1
  replace kC := kC.keep hb1
  have hY1 := hZ0.trans (hb1.mono hZ0.size)
  have zkC_1 : w.heap.size < w1.heap.size := by omega
  go_wp2
  go_ret
  exact ⟨rfl, hY1⟩

set_option maxRecDepth 100000 in
set_option maxHeartbeats 4000000 in
theorem held_err (w : World) (A0 : Option Addr) (c0 : Nat) (now mx : Int) (ls : List Lk) (hst0 : LkV w (.agg #[.int .i64 now, .int .i64 mx, .slice A0 ls.length c0]) now mx ls) (i who other ver eA : Int) (lsA : List Lk) (h30 : ls.length ≤ 30) (hA : takeL now mx ls i who = (eA, lsA)) (hE : (eA != 0) = true) (hs : ls = lsA) :
    Calls Try.prog 4 #[.agg #[.int .i64 now, .int .i64 mx, .slice A0 ls.length c0], .int .i64 i, .int .i64 who, .int .i64 other, .int .i64 ver] w fun e w' => e = .returned (.bool true) ∧ Below w.heap.size w w' := by
  have h30' : ¬ (30 : Int) < (ls.length : Int) := by omega
  have cA := fun v W hs => Take_any v now mx i who ls W hs (by omega)
  rw [hA] at cA
  subst hs
  have sA := fun v1 v2 W h1 h2 => LSame_any v1 v2 now mx now mx ls ls W h1 h2
  rw [sameL_refl] at sA
  have hE2 : (eA == 0) = false := by simpa using hE
  clear hA
  go_enter Try.func4, Try.ntmps4
  have hA0 := ((Below.refl w.heap.size w).alloc (Nat.le_refl _) (.cells #[.int .i64 now, .int .i64 mx, .slice A0 ls.length c0] 24))
  replace hst0 := hst0.keep hA0
  have kC := Blk.new_ w 24 #[.int .i64 now, .int .i64 mx, .slice A0 ls.length c0] (w.heap.size) (by simp)
  have hZ0 : Below w.heap.size w _ := hA0
  go_wp2_with fail
  refine (awake_any _).mono ?_
  rintro e w1 ⟨rfl, hb1⟩
  obtain ⟨hc1, hf1⟩ := bcell hb1
  have hz1 := hb1.size
  simp at hz1
  replace hst0 := hst0.keep hb1
  replace kC := kC.keep hb1
  have hY1 := hZ0.trans (hb1.mono hZ0.size)
  have zkC_1 : w.heap.size < w1.heap.size := by omega
  have hZ1 : Below w.heap.size w w1 := hY1
  go_wp2_with fail
  refine (cA _ _ hst0).mono ?_
  rintro e w2 ⟨v2, rfl, hstA, hb2⟩
  obtain ⟨hc2, hf2⟩ := bcell hb2
  have hz2 := hb2.size
  replace hst0 := hst0.keep hb2
  replace kC := kC.keep hb2
  have hY2 := hZ1.trans (hb2.mono hZ1.size)
  have zkC_2 : w.heap.size < w2.heap.size := by omega
  replace hstA := hstA.to
  dsimp only at hstA
  obtain ⟨AA, dA, rfl, hstA⟩ := hstA.form
  have hA2 := ((Below.refl w2.heap.size w2).alloc (Nat.le_refl _) (.cells #[.int .i64 now, .int .i64 mx, .slice AA ls.length dA] 24))
  replace hst0 := hst0.keep hA2
  replace kC := kC.keep hA2
  replace hstA := hstA.keep hA2
  have kA := Blk.new_ w2 24 #[.int .i64 now, .int .i64 mx, .slice AA ls.length dA] (w2.heap.size) (by simp)
  have hZ2 : Below w.heap.size w _ := hY2.trans (hA2.mono hY2.size)
  go_wp2_with fail
  refine (sA _ _ _ hstA hst0).mono ?_
  rintro e w3 ⟨rfl, hb3⟩
  obtain ⟨hc3, hf3⟩ := bcell hb3
  have hz3 := hb3.size
  simp at hz3
  replace hst0 := hst0.keep hb3
  replace kC := kC.keep hb3
  replace hstA := hstA.keep hb3
  replace kA := kA.keep hb3
  have hY3 := hZ2.trans (hb3.mono hZ2.size)
  have zkC_3 : w.heap.size < w3.heap.size := by omega
  have zkA_3 : w2.heap.size < w3.heap.size := by omega
  go_wp2
  go_ret
  exact ⟨rfl, hY3⟩

set_option maxRecDepth 100000 in
set_option maxHeartbeats 4000000 in
theorem held_eq (w : World) (A0 : Option Addr) (c0 : Nat) (now mx : Int) (ls : List Lk) (hst0 : LkV w (.agg #[.int .i64 now, .int .i64 mx, .slice A0 ls.length c0]) now mx ls) (i who other ver : Int) (lsA : List Lk) (h30 : ls.length ≤ 30) (hA : takeL now mx ls i who = (0, lsA)) (ho : other = who) :
    Calls Try.prog 4 #[.agg #[.int .i64 now, .int .i64 mx, .slice A0 ls.length c0], .int .i64 i, .int .i64 who, .int .i64 other, .int .i64 ver] w fun e w' => e = .returned (.bool true) ∧ Below w.heap.size w w' := by
  have h30' : ¬ (30 : Int) < (ls.length : Int) := by omega
  have cA := fun v W hs => Take_any v now mx i who ls W hs (by omega)
  rw [hA] at cA
  subst ho
  clear hA
  go_enter Try.func4, Try.ntmps4
  have hA0 := ((Below.refl w.heap.size w).alloc (Nat.le_refl _) (.cells #[.int .i64 now, .int .i64 mx, .slice A0 ls.length c0] 24))
  replace hst0 := hst0.keep hA0
  have kC := Blk.new_ w 24 #[.int .i64 now, .int .i64 mx, .slice A0 ls.length c0] (w.heap.size) (by simp)
  have hZ0 : Below w.heap.size w _ := hA0
  go_wp2_with fail
  refine (awake_any _).mono ?_
  rintro e w1 ⟨rfl, hb1⟩
  obtain ⟨hc1, hf1⟩ := bcell hb1
  have hz1 := hb1.size
  simp at hz1
  replace hst0 := hst0.keep hb1
  replace kC := kC.keep hb1
  have hY1 := hZ0.trans (hb1.mono hZ0.size)
  have zkC_1 : w.heap.size < w1.heap.size := by omega
  have hZ1 : Below w.heap.size w w1 := hY1
  go_wp2_with fail
  refine (cA _ _ hst0).mono ?_
  rintro e w2 ⟨v2, rfl, hstA, hb2⟩
  obtain ⟨hc2, hf2⟩ := bcell hb2
  have hz2 := hb2.size
  replace hst0 := hst0.keep hb2
  replace kC := kC.keep hb2
  have hY2 := hZ1.trans (hb2.mono hZ1.size)
  have zkC_2 : w.heap.size < w2.heap.size := by omega
  replace hstA := hstA.to
  dsimp only at hstA
  obtain ⟨AA, dA, rfl, hstA⟩ := hstA.form
  have hA2 := ((Below.refl w2.heap.size w2).alloc (Nat.le_refl _) (.cells #[.int .i64 now, .int .i64 mx, .slice AA lsA.length dA] 24))
  replace hst0 := hst0.keep hA2
  replace kC := kC.keep hA2
  replace hstA := hstA.keep hA2
  have kA := Blk.new_ w2 24 #[.int .i64 now, .int .i64 mx, .slice AA lsA.length dA] (w2.heap.size) (by simp)
  have hZ2 : Below w.heap.size w _ := hY2.trans (hA2.mono hY2.size)
  go_wp2
  go_ret
  exact ⟨rfl, hZ2⟩

set_option maxRecDepth 100000 in
set_option maxHeartbeats 4000000 in
theorem held_neg (w : World) (A0 : Option Addr) (c0 : Nat) (now mx : Int) (ls : List Lk) (hst0 : LkV w (.agg #[.int .i64 now, .int .i64 mx, .slice A0 ls.length c0]) now mx ls) (i who other ver : Int) (lsA : List Lk) (h30 : ls.length ≤ 30) (hA : takeL now mx ls i who = (0, lsA)) (ho : (other == who) = false) (h1 : other < 0) :
    Calls Try.prog 4 #[.agg #[.int .i64 now, .int .i64 mx, .slice A0 ls.length c0], .int .i64 i, .int .i64 who, .int .i64 other, .int .i64 ver] w fun e w' => e = .returned (.bool true) ∧ Below w.heap.size w w' := by
  have h30' : ¬ (30 : Int) < (ls.length : Int) := by omega
  have cA := fun v W hs => Take_any v now mx i who ls W hs (by omega)
  rw [hA] at cA
  clear hA
  go_enter Try.func4, Try.ntmps4
  have hA0 := ((Below.refl w.heap.size w).alloc (Nat.le_refl _) (.cells #[.int .i64 now, .int .i64 mx, .slice A0 ls.length c0] 24))
  replace hst0 := hst0.keep hA0
  have kC := Blk.new_ w 24 #[.int .i64 now, .int .i64 mx, .slice A0 ls.length c0] (w.heap.size) (by simp)
  have hZ0 : Below w.heap.size w _ := hA0
  go_wp2_with fail
  refine (awake_any _).mono ?_
  rintro e w1 ⟨rfl, hb1⟩
  obtain ⟨hc1, hf1⟩ := bcell hb1
  have hz1 := hb1.size
  simp at hz1
  replace hst0 := hst0.keep hb1
  replace kC := kC.keep hb1
  have hY1 := hZ0.trans (hb1.mono hZ0.size)
  have zkC_1 : w.heap.size < w1.heap.size := by omega
  have hZ1 : Below w.heap.size w w1 := hY1
  go_wp2_with fail
  refine (cA _ _ hst0).mono ?_
  rintro e w2 ⟨v2, rfl, hstA, hb2⟩
  obtain ⟨hc2, hf2⟩ := bcell hb2
  have hz2 := hb2.size
  replace hst0 := hst0.keep hb2
  replace kC := kC.keep hb2
  have hY2 := hZ1.trans (hb2.mono hZ1.size)
  have zkC_2 : w.heap.size < w2.heap.size := by omega
  replace hstA := hstA.to
  dsimp only at hstA
  obtain ⟨AA, dA, rfl, hstA⟩ := hstA.form
  have hA2 := ((Below.refl w2.heap.size w2).alloc (Nat.le_refl _) (.cells #[.int .i64 now, .int .i64 mx, .slice AA lsA.length dA] 24))
  replace hst0 := hst0.keep hA2
  replace kC := kC.keep hA2
  replace hstA := hstA.keep hA2
  have kA := Blk.new_ w2 24 #[.int .i64 now, .int .i64 mx, .slice AA lsA.length dA] (w2.heap.size) (by simp)
  have hZ2 : Below w.heap.size w _ := hY2.trans (hA2.mono hY2.size)
  go_wp2
  go_ret
  exact ⟨rfl, hZ2⟩

set_option maxRecDepth 100000 in
set_option maxHeartbeats 4000000 in
theorem held_big (w : World) (A0 : Option Addr) (c0 : Nat) (now mx : Int) (ls : List Lk) (hst0 : LkV w (.agg #[.int .i64 now, .int .i64 mx, .slice A0 ls.length c0]) now mx ls) (i who other ver : Int) (lsA : List Lk) (h30 : ls.length ≤ 30) (hA : takeL now mx ls i who = (0, lsA)) (ho : (other == who) = false) (h1 : ¬ other < 0) (h2 : 3 < other) :
    Calls Try.prog 4 #[.agg #[.int .i64 now, .int .i64 mx, .slice A0 ls.length c0], .int .i64 i, .int .i64 who, .int .i64 other, .int .i64 ver] w fun e w' => e = .returned (.bool true) ∧ Below w.heap.size w w' := by
  have h30' : ¬ (30 : Int) < (ls.length : Int) := by omega
  have cA := fun v W hs => Take_any v now mx i who ls W hs (by omega)
  rw [hA] at cA
  clear hA
  go_enter Try.func4, Try.ntmps4
  have hA0 := ((Below.refl w.heap.size w).alloc (Nat.le_refl _) (.cells #[.int .i64 now, .int .i64 mx, .slice A0 ls.length c0] 24))
  replace hst0 := hst0.keep hA0
  have kC := Blk.new_ w 24 #[.int .i64 now, .int .i64 mx, .slice A0 ls.length c0] (w.heap.size) (by simp)
  have hZ0 : Below w.heap.size w _ := hA0
  go_wp2_with fail
  refine (awake_any _).mono ?_
  rintro e w1 ⟨rfl, hb1⟩
  obtain ⟨hc1, hf1⟩ := bcell hb1
  have hz1 := hb1.size
  simp at hz1
  replace hst0 := hst0.keep hb1
  replace kC := kC.keep hb1
  have hY1 := hZ0.trans (hb1.mono hZ0.size)
  have zkC_1 : w.heap.size < w1.heap.size := by omega
  have hZ1 : Below w.heap.size w w1 := hY1
  go_wp2_with fail
  refine (cA _ _ hst0).mono ?_
  rintro e w2 ⟨v2, rfl, hstA, hb2⟩
  obtain ⟨hc2, hf2⟩ := bcell hb2
  have hz2 := hb2.size
  replace hst0 := hst0.keep hb2
  replace kC := kC.keep hb2
  have hY2 := hZ1.trans (hb2.mono hZ1.size)
  have zkC_2 : w.heap.size < w2.heap.size := by omega
  replace hstA := hstA.to
  dsimp only at hstA
  obtain ⟨AA, dA, rfl, hstA⟩ := hstA.form
  have hA2 := ((Below.refl w2.heap.size w2).alloc (Nat.le_refl _) (.cells #[.int .i64 now, .int .i64 mx, .slice AA lsA.length dA] 24))
  replace hst0 := hst0.keep hA2
  replace kC := kC.keep hA2
  replace hstA := hstA.keep hA2
  have kA := Blk.new_ w2 24 #[.int .i64 now, .int .i64 mx, .slice AA lsA.length dA] (w2.heap.size) (by simp)
  have hZ2 : Below w.heap.size w _ := hY2.trans (hA2.mono hY2.size)
  go_wp2
  go_ret
  exact ⟨rfl, hZ2⟩

set_option maxRecDepth 100000 in
set_option maxHeartbeats 4000000 in
theorem held_main (w : World) (A0 : Option Addr) (c0 : Nat) (now mx : Int) (ls : List Lk) (hst0 : LkV w (.agg #[.int .i64 now, .int .i64 mx, .slice A0 ls.length c0]) now mx ls) (i who other ver gD : Int) (lsA : List Lk) (h30 : ls.length ≤ 30) (hl : lsA.length ≤ 30) (hA : takeL now mx ls i who = (0, lsA)) (ho : (other == who) = false) (h1 : ¬ other < 0) (h2 : ¬ 3 < other) (hB : takeL now mx lsA i other = (10, lsA)) (hD : giveL now mx lsA i other ver = (gD, lsA)) (hg : (gD != 0) = true) (hE : takeL now mx lsA i who = (0, lsA)) (s1 : seesL now mx lsA i 1073741824 other = false) (s2 : seesL now mx lsA i 1073741824 who = true) :
    Calls Try.prog 4 #[.agg #[.int .i64 now, .int .i64 mx, .slice A0 ls.length c0], .int .i64 i, .int .i64 who, .int .i64 other, .int .i64 ver] w fun e w' => e = .returned (.bool true) ∧ Below w.heap.size w w' := by
  have h30' : ¬ (30 : Int) < (ls.length : Int) := by omega
  have cA := fun v W hs => Take_any v now mx i who ls W hs (by omega)
  rw [hA] at cA
  have cB := fun v W hs => Take_any v now mx i other lsA W hs (by omega)
  rw [hB] at cB
  have cD := fun v W hs => Give_any v now mx i other ver lsA W hs (by omega)
  rw [hD] at cD
  have cE := fun v W hs => Take_any v now mx i who lsA W hs (by omega)
  rw [hE] at cE
  have sA := fun v1 v2 W h1 h2 => LSame_any v1 v2 now mx now mx lsA lsA W h1 h2
  rw [sameL_refl] at sA
  have t1 := fun v W hs => Sees_any v now mx i 1073741824 other lsA W hs
  rw [s1] at t1
  have t2 := fun v W hs => Sees_any v now mx i 1073741824 who lsA W hs
  rw [s2] at t2
  clear hA hB hD hE s1 s2 hl h30
  go_enter Try.func4, Try.ntmps4
  have hA0 := ((Below.refl w.heap.size w).alloc (Nat.le_refl _) (.cells #[.int .i64 now, .int .i64 mx, .slice A0 ls.length c0] 24))
  replace hst0 := hst0.keep hA0
  have kC := Blk.new_ w 24 #[.int .i64 now, .int .i64 mx, .slice A0 ls.length c0] (w.heap.size) (by simp)
  have hZ0 : Below w.heap.size w _ := hA0
  go_wp2_with fail
  refine (awake_any _).mono ?_
  rintro e w1 ⟨rfl, hb1⟩
  obtain ⟨hc1, hf1⟩ := bcell hb1
  have hz1 := hb1.size
  simp at hz1
  replace hst0 := hst0.keep hb1
  replace kC := kC.keep hb1
  have hY1 := hZ0.trans (hb1.mono hZ0.size)
  have zkC_1 : w.heap.size < w1.heap.size := by omega
  have hZ1 : Below w.heap.size w w1 := hY1
  go_wp2_with fail
  refine (cA _ _ hst0).mono ?_
  rintro e w2 ⟨v2, rfl, hstA, hb2⟩
  obtain ⟨hc2, hf2⟩ := bcell hb2
  have hz2 := hb2.size
  replace hst0 := hst0.keep hb2
  replace kC := kC.keep hb2
  have hY2 := hZ1.trans (hb2.mono hZ1.size)
  have zkC_2 : w.heap.size < w2.heap.size := by omega
  replace hstA := hstA.to
  dsimp only at hstA
  obtain ⟨AA, dA, rfl, hstA⟩ := hstA.form
  have hA2 := ((Below.refl w2.heap.size w2).alloc (Nat.le_refl _) (.cells #[.int .i64 now, .int .i64 mx, .slice AA lsA.length dA] 24))
  replace hst0 := hst0.keep hA2
  replace kC := kC.keep hA2
  replace hstA := hstA.keep hA2
  have kA := Blk.new_ w2 24 #[.int .i64 now, .int .i64 mx, .slice AA lsA.length dA] (w2.heap.size) (by simp)
  have hZ2 : Below w.heap.size w _ := hY2.trans (hA2.mono hY2.size)
  go_wp2_with fail
  refine (cB _ _ hstA).mono ?_
  rintro e w3 ⟨v3, rfl, hstB, hb3⟩
  obtain ⟨hc3, hf3⟩ := bcell hb3
  have hz3 := hb3.size
  simp at hz3
  replace hst0 := hst0.keep hb3
  replace kC := kC.keep hb3
  replace hstA := hstA.keep hb3
  replace kA := kA.keep hb3
  have hY3 := hZ2.trans (hb3.mono hZ2.size)
  have zkC_3 : w.heap.size < w3.heap.size := by omega
  have zkA_3 : w2.heap.size < w3.heap.size := by omega
  replace hstB := hstB.to
  dsimp only at hstB
  obtain ⟨AB, dB, rfl, hstB⟩ := hstB.form
  have hA3 := ((Below.refl w3.heap.size w3).alloc (Nat.le_refl _) (.cells #[.int .i64 now, .int .i64 mx, .slice AB lsA.length dB] 24))
  replace hst0 := hst0.keep hA3
  replace kC := kC.keep hA3
  replace hstA := hstA.keep hA3
  replace kA := kA.keep hA3
  replace hstB := hstB.keep hA3
  have kB := Blk.new_ w3 24 #[.int .i64 now, .int .i64 mx, .slice AB lsA.length dB] (w3.heap.size) (by simp)
  have hZ3 : Below w.heap.size w _ := hY3.trans (hA3.mono hY3.size)
  go_wp2_with fail
  refine (cD _ _ hstA).mono ?_
  rintro e w4 ⟨v4, rfl, hstD, hb4⟩
  obtain ⟨hc4, hf4⟩ := bcell hb4
  have hz4 := hb4.size
  simp at hz4
  replace hst0 := hst0.keep hb4
  replace kC := kC.keep hb4
  replace hstA := hstA.keep hb4
  replace kA := kA.keep hb4
  replace hstB := hstB.keep hb4
  replace kB := kB.keep hb4
  have hY4 := hZ3.trans (hb4.mono hZ3.size)
  have zkC_4 : w.heap.size < w4.heap.size := by omega
  have zkA_4 : w2.heap.size < w4.heap.size := by omega
  have zkB_4 : w3.heap.size < w4.heap.size := by omega
  replace hstD := hstD.to
  dsimp only at hstD
  obtain ⟨AD, dD, rfl, hstD⟩ := hstD.form
  have hA4 := ((Below.refl w4.heap.size w4).alloc (Nat.le_refl _) (.cells #[.int .i64 now, .int .i64 mx, .slice AD lsA.length dD] 24))
  replace hst0 := hst0.keep hA4
  replace kC := kC.keep hA4
  replace hstA := hstA.keep hA4
  replace kA := kA.keep hA4
  replace hstB := hstB.keep hA4
  replace kB := kB.keep hA4
  replace hstD := hstD.keep hA4
  have kD := Blk.new_ w4 24 #[.int .i64 now, .int .i64 mx, .slice AD lsA.length dD] (w4.heap.size) (by simp)
  have hZ4 : Below w.heap.size w _ := hY4.trans (hA4.mono hY4.size)
  go_wp2_with fail
  refine (cE _ _ hstA).mono ?_
  rintro e w5 ⟨v5, rfl, hstE, hb5⟩
  obtain ⟨hc5, hf5⟩ := bcell hb5
  have hz5 := hb5.size
  simp at hz5
  replace hst0 := hst0.keep hb5
  replace kC := kC.keep hb5
  replace hstA := hstA.keep hb5
  replace kA := kA.keep hb5
  replace hstB := hstB.keep hb5
  replace kB := kB.keep hb5
  replace hstD := hstD.keep hb5
  replace kD := kD.keep hb5
  have hY5 := hZ4.trans (hb5.mono hZ4.size)
  have zkC_5 : w.heap.size < w5.heap.size := by omega
  have zkA_5 : w2.heap.size < w5.heap.size := by omega
  have zkB_5 : w3.heap.size < w5.heap.size := by omega
  have zkD_5 : w4.heap.size < w5.heap.size := by omega
  replace hstE := hstE.to
  dsimp only at hstE
  obtain ⟨AE, dE, rfl, hstE⟩ := hstE.form
  have hA5 := ((Below.refl w5.heap.size w5).alloc (Nat.le_refl _) (.cells #[.int .i64 now, .int .i64 mx, .slice AE lsA.length dE] 24))
  replace hst0 := hst0.keep hA5
  replace kC := kC.keep hA5
  replace hstA := hstA.keep hA5
  replace kA := kA.keep hA5
  replace hstB := hstB.keep hA5
  replace kB := kB.keep hA5
  replace hstD := hstD.keep hA5
  replace kD := kD.keep hA5
  replace hstE := hstE.keep hA5
  have kE := Blk.new_ w5 24 #[.int .i64 now, .int .i64 mx, .slice AE lsA.length dE] (w5.heap.size) (by simp)
  have hZ5 : Below w.heap.size w _ := hY5.trans (hA5.mono hY5.size)
  go_wp2_with fail
  refine (sA _ _ _ hstE hstA).mono ?_
  rintro e w6 ⟨rfl, hb6⟩
  obtain ⟨hc6, hf6⟩ := bcell hb6
  have hz6 := hb6.size
  simp at hz6
  replace hst0 := hst0.keep hb6
  replace kC := kC.keep hb6
  replace hstA := hstA.keep hb6
  replace kA := kA.keep hb6
  replace hstB := hstB.keep hb6
  replace kB := kB.keep hb6
  replace hstD := hstD.keep hb6
  replace kD := kD.keep hb6
  replace hstE := hstE.keep hb6
  replace kE := kE.keep hb6
  have hY6 := hZ5.trans (hb6.mono hZ5.size)
  have zkC_6 : w.heap.size < w6.heap.size := by omega
  have zkA_6 : w2.heap.size < w6.heap.size := by omega
  have zkB_6 : w3.heap.size < w6.heap.size := by omega
  have zkD_6 : w4.heap.size < w6.heap.size := by omega
  have zkE_6 : w5.heap.size < w6.heap.size := by omega
  have hZ6 : Below w.heap.size w w6 := hY6
  go_wp2_with fail
  refine (sA _ _ _ hstB hstA).mono ?_
  rintro e w7 ⟨rfl, hb7⟩
  obtain ⟨hc7, hf7⟩ := bcell hb7
  have hz7 := hb7.size
  replace hst0 := hst0.keep hb7
  replace kC := kC.keep hb7
  replace hstA := hstA.keep hb7
  replace kA := kA.keep hb7
  replace hstB := hstB.keep hb7
  replace kB := kB.keep hb7
  replace hstD := hstD.keep hb7
  replace kD := kD.keep hb7
  replace hstE := hstE.keep hb7
  replace kE := kE.keep hb7
  have hY7 := hZ6.trans (hb7.mono hZ6.size)
  have zkC_7 : w.heap.size < w7.heap.size := by omega
  have zkA_7 : w2.heap.size < w7.heap.size := by omega
  have zkB_7 : w3.heap.size < w7.heap.size := by omega
  have zkD_7 : w4.heap.size < w7.heap.size := by omega
  have zkE_7 : w5.heap.size < w7.heap.size := by omega
  have hZ7 : Below w.heap.size w w7 := hY7
  go_wp2_with fail
  refine (sA _ _ _ hstD hstA).mono ?_
  rintro e w8 ⟨rfl, hb8⟩
  obtain ⟨hc8, hf8⟩ := bcell hb8
  have hz8 := hb8.size
  replace hst0 := hst0.keep hb8
  replace kC := kC.keep hb8
  replace hstA := hstA.keep hb8
  replace kA := kA.keep hb8
  replace hstB := hstB.keep hb8
  replace kB := kB.keep hb8
  replace hstD := hstD.keep hb8
  replace kD := kD.keep hb8
  replace hstE := hstE.keep hb8
  replace kE := kE.keep hb8
  have hY8 := hZ7.trans (hb8.mono hZ7.size)
  have zkC_8 : w.heap.size < w8.heap.size := by omega
  have zkA_8 : w2.heap.size < w8.heap.size := by omega
  have zkB_8 : w3.heap.size < w8.heap.size := by omega
  have zkD_8 : w4.heap.size < w8.heap.size := by omega
  have zkE_8 : w5.heap.size < w8.heap.size := by omega
  have hZ8 : Below w.heap.size w w8 := hY8
  go_wp2_with fail
  refine (t1 _ _ hstA).mono ?_
  rintro e w9 ⟨rfl, hb9⟩
  obtain ⟨hc9, hf9⟩ := bcell hb9
  have hz9 := hb9.size
  replace hst0 := hst0.keep hb9
  replace kC := kC.keep hb9
  replace hstA := hstA.keep hb9
  replace kA := kA.keep hb9
  replace hstB := hstB.keep hb9
  replace kB := kB.keep hb9
  replace hstD := hstD.keep hb9
  replace kD := kD.keep hb9
  replace hstE := hstE.keep hb9
  replace kE := kE.keep hb9
  have hY9 := hZ8.trans (hb9.mono hZ8.size)
  have zkC_9 : w.heap.size < w9.heap.size := by omega
  have zkA_9 : w2.heap.size < w9.heap.size := by omega
  have zkB_9 : w3.heap.size < w9.heap.size := by omega
  have zkD_9 : w4.heap.size < w9.heap.size := by omega
  have zkE_9 : w5.heap.size < w9.heap.size := by omega
  have hZ9 : Below w.heap.size w w9 := hY9
  go_wp2_with fail
  refine (t2 _ _ hstA).mono ?_
  rintro e w10 ⟨rfl, hb10⟩
  obtain ⟨hc10, hf10⟩ := bcell hb10
  have hz10 := hb10.size
  replace hst0 := hst0.keep hb10
  replace kC := kC.keep hb10
  replace hstA := hstA.keep hb10
  replace kA := kA.keep hb10
  replace hstB := hstB.keep hb10
  replace kB := kB.keep hb10
  replace hstD := hstD.keep hb10
  replace kD := kD.keep hb10
  replace hstE := hstE.keep hb10
  replace kE := kE.keep hb10
  have hY10 := hZ9.trans (hb10.mono hZ9.size)
  have zkC_10 : w.heap.size < w10.heap.size := by omega
  have zkA_10 : w2.heap.size < w10.heap.size := by omega
  have zkB_10 : w3.heap.size < w10.heap.size := by omega
  have zkD_10 : w4.heap.size < w10.heap.size := by omega
  have zkE_10 : w5.heap.size < w10.heap.size := by omega
  go_wp2
  go_ret
  exact ⟨rfl, hY10⟩

theorem lockHeld_walk (w : World) (v0 : Value) (now mx : Int) (ls : List Lk) (hst0 : LkV w v0 now mx ls) (_wn : okI now) (_wm : okI mx) (_hok : ∀ q ∈ ls, lkOk q) (i : Int) (_w1 : (Lit.int .i64 i).wf = true) (who : Int) (_w2 : (Lit.int .i64 who).wf = true)
    (other : Int) (_w3 : (Lit.int .i64 other).wf = true) (ver : Int) (_w4 : (Lit.int .i64 ver).wf = true) :
    Calls Try.prog 4 #[v0, .int .i64 i, .int .i64 who, .int .i64 other, .int .i64 ver] w fun e w' => e = .returned (.bool true) ∧ Below w.heap.size w w' := by
  obtain ⟨A0, c0, rfl, hst0⟩ := hst0.form
  by_cases h30 : 30 < ls.length
  · exact held_long w A0 c0 now mx ls hst0 i who other ver h30
  have h30 : ls.length ≤ 30 := by omega
  by_cases hA : (takeL now mx ls i who).1 = 0
  · obtain ⟨k, rfl, hm, hw0, hw4, hk, hf, hA⟩ := take_ok hA
    have hbd := may_at hm k hk
    have hmm := (may_iff.1 hm)
    by_cases ho : other = who
    · exact held_eq w A0 c0 now mx ls hst0 k who other ver _ h30 hA ho
    have ho' : (other == who) = false := by simpa using ho
    by_cases h1 : other < 0
    · exact held_neg w A0 c0 now mx ls hst0 k who other ver _ h30 hA ho' h1
    by_cases h2 : 3 < other
    · exact held_big w A0 c0 now mx ls hst0 k who other ver _ h30 hA ho' h1 h2
    have hmA := may_set hm k ⟨ls[k].v, who⟩ ⟨hbd.1, hbd.2.1, by show -1 ≤ who; omega, hw4⟩
    have hkA : k < (ls.set k ⟨ls[k].v, who⟩).length := by simpa using hk
    have hg : ∃ gD, (gD != 0) = true ∧ giveL now mx (ls.set k ⟨ls[k].v, who⟩) k other ver = (gD, ls.set k ⟨ls[k].v, who⟩) := by
      refine ⟨(giveL now mx (ls.set k ⟨ls[k].v, who⟩) k other ver).1, ?_, ?_⟩
      · rw [bne_iff_ne]
        intro h0
        obtain ⟨k', e1, _, _, _, _, _, hk', e2, _⟩ := give_ok h0
        obtain rfl : k = k' := by omega
        simp at e2
        exact ho e2.symm
      · refine Prod.ext rfl (give_err ?_)
        intro h0
        obtain ⟨k', e1, _, _, _, _, _, hk', e2, _⟩ := give_ok h0
        obtain rfl : k = k' := by omega
        simp at e2
        exact ho e2.symm
    obtain ⟨gD, hg, hD⟩ := hg
    refine held_main w A0 c0 now mx ls hst0 k who other ver gD _ h30 (by simpa using h30) hA ho' h1 h2 ?_ hD hg ?_ ?_ ?_
    · rw [take_in hmA hkA (by omega) (by omega), if_neg (by simp [freeH]; omega)]
    · rw [take_in hmA hkA hw0 hw4, if_pos (by simp [freeH])]; simp
    · rw [sees_in hmA hkA]; simp [freeH]; omega
    · rw [sees_in hmA hkA]; simp [freeH]; omega
  · exact held_err w A0 c0 now mx ls hst0 i who other ver (takeL now mx ls i who).1 (takeL now mx ls i who).2 h30 rfl (by rw [bne_iff_ne]; exact hA) (take_err hA).symm

end Go.Proofs.Ytkmdifngljdpeaa
