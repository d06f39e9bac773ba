/- The walk of LockBack. -/
import Derived.Test.YtkmdifngljdpeaaLkPlain
import Derived.Test.YtkmdifngljdpeaaLkOpen
namespace Go.Proofs.Ytkmdifngljdpeaa
open Go Go.RowKit
set_option linter.unusedVariables false

set_option maxRecDepth 100000 in
set_option maxHeartbeats 4000000 in
theorem back_long (w : World) (A0 : Option Addr) (c0 : Nat) (now mx : Int) (ls : List Lk) (hst0 : LkV w (.agg #[.int .i64 now, .int .i64 mx, .slice A0 ls.length c0]) now mx ls) (i who : Int) (h30 : 30 < ls.length) :
    Calls Try.prog 5 #[.agg #[.int .i64 now, .int .i64 mx, .slice A0 ls.length c0], .int .i64 i, .int .i64 who] w fun e w' => e = .returned (.bool true) ∧ Below w.heap.size w w' := by
  have h30' : (30 : Int) < (ls.length : Int) := by omega
  go_enter Try.func5, Try.ntmps5
  have hA0 := ((Below.refl w.heap.size w).alloc (Nat.le_refl _) (.cells #[.int .i64 now, .int .i64 mx, .slice A0 ls.length c0] 24))
  replace hst0 := hst0.keep hA0
  have kC := Blk.new_ w 24 #[.int .i64 now, .int .i64 mx, .slice A0 ls.length c0] (w.heap.size) (by simp)
  have hZ0 : Below w.heap.size w _ := hA0
  go_wp2_with fail
  refine (awake_any _).mono ?_
  rintro e w1 ⟨rfl, hb1⟩
  obtain ⟨hc1, hf1⟩ := bcell hb1
  have hz1 := hb1.size
  simp at hz1
  replace hst0 := hst0.keep hb1
  replace kC := kC.keep hb1
  have hY1 := hZ0.trans (hb1.mono hZ0.size)
  have zkC_1 : w.heap.size < w1.heap.size := by omega
  go_wp2
  go_ret
  exact ⟨rfl, hY1⟩

set_option maxRecDepth 100000 in
set_option maxHeartbeats 4000000 in
theorem back_neg (w : World) (A0 : Option Addr) (c0 : Nat) (now mx : Int) (ls : List Lk) (hst0 : LkV w (.agg #[.int .i64 now, .int .i64 mx, .slice A0 ls.length c0]) now mx ls) (i who : Int) (h30 : ls.length ≤ 30) (hi : i < 0) :
    Calls Try.prog 5 #[.agg #[.int .i64 now, .int .i64 mx, .slice A0 ls.length c0], .int .i64 i, .int .i64 who] w fun e w' => e = .returned (.bool true) ∧ Below w.heap.size w w' := by
  have h30' : ¬ (30 : Int) < (ls.length : Int) := by omega
  go_enter Try.func5, Try.ntmps5
  have hA0 := ((Below.refl w.heap.size w).alloc (Nat.le_refl _) (.cells #[.int .i64 now, .int .i64 mx, .slice A0 ls.length c0] 24))
  replace hst0 := hst0.keep hA0
  have kC := Blk.new_ w 24 #[.int .i64 now, .int .i64 mx, .slice A0 ls.length c0] (w.heap.size) (by simp)
  have hZ0 : Below w.heap.size w _ := hA0
  go_wp2_with fail
  refine (awake_any _).mono ?_
  rintro e w1 ⟨rfl, hb1⟩
  obtain ⟨hc1, hf1⟩ := bcell hb1
  have hz1 := hb1.size
  simp at hz1
  replace hst0 := hst0.keep hb1
  replace kC := kC.keep hb1
  have hY1 := hZ0.trans (hb1.mono hZ0.size)
  have zkC_1 : w.heap.size < w1.heap.size := by omega
  go_wp2
  go_ret
  exact ⟨rfl, hY1⟩

set_option maxRecDepth 100000 in
set_option maxHeartbeats 4000000 in
theorem back_big (w : World) (A0 : Option Addr) (c0 : Nat) (now mx : Int) (ls : List Lk) (hst0 : LkV w (.agg #[.int .i64 now, .int .i64 mx, .slice A0 ls.length c0]) now mx ls) (i who : Int) (h30 : ls.length ≤ 30) (hi : ¬ i < 0) (h2 : (ls.length : Int) ≤ i) :
    Calls Try.prog 5 #[.agg #[.int .i64 now, .int .i64 mx, .slice A0 ls.length c0], .int .i64 i, .int .i64 who] w fun e w' => e = .returned (.bool true) ∧ Below w.heap.size w w' := by
  have h30' : ¬ (30 : Int) < (ls.length : Int) := by omega
  go_enter Try.func5, Try.ntmps5
  have hA0 := ((Below.refl w.heap.size w).alloc (Nat.le_refl _) (.cells #[.int .i64 now, .int .i64 mx, .slice A0 ls.length c0] 24))
  replace hst0 := hst0.keep hA0
  have kC := Blk.new_ w 24 #[.int .i64 now, .int .i64 mx, .slice A0 ls.length c0] (w.heap.size) (by simp)
  have hZ0 : Below w.heap.size w _ := hA0
  go_wp2_with fail
  refine (awake_any _).mono ?_
  rintro e w1 ⟨rfl, hb1⟩
  obtain ⟨hc1, hf1⟩ := bcell hb1
  have hz1 := hb1.size
  simp at hz1
  replace hst0 := hst0.keep hb1
  replace kC := kC.keep hb1
  have hY1 := hZ0.trans (hb1.mono hZ0.size)
  have zkC_1 : w.heap.size < w1.heap.size := by omega
  go_wp2
  go_ret
  exact ⟨rfl, hY1⟩

set_option maxRecDepth 100000 in
set_option maxHeartbeats 4000000 in
theorem back_held (w : World) (A0 : Option Addr) (c0 : Nat) (now mx : Int) (ls : List Lk) (hst0 : LkV w (.agg #[.int .i64 now, .int .i64 mx, .slice A0 ls.length c0]) now mx ls) (k : Nat) (who : Int) (x : Lk) (h30 : ls.length ≤ 30) (hk : k < ls.length) (hx : ls[k] = x) (ho : (x.o == -1) = false) :
    Calls Try.prog 5 #[.agg #[.int .i64 now, .int .i64 mx, .slice A0 ls.length c0], .int .i64 (k : Int), .int .i64 who] w fun e w' => e = .returned (.bool true) ∧ Below w.heap.size w w' := by
  have h30' : ¬ (30 : Int) < (ls.length : Int) := by omega
  have hk0 : (0 : Int) ≤ (k : Int) := by omega
  have hk1 : (k : Int) < (ls.length : Int) := by omega
  have ho2 : (x.o != -1) = true := by simpa using ho
  go_enter Try.func5, Try.ntmps5
  have hA0 := ((Below.refl w.heap.size w).alloc (Nat.le_refl _) (.cells #[.int .i64 now, .int .i64 mx, .slice A0 ls.length c0] 24))
  replace hst0 := hst0.keep hA0
  have kC := Blk.new_ w 24 #[.int .i64 now, .int .i64 mx, .slice A0 ls.length c0] (w.heap.size) (by simp)
  have hZ0 : Below w.heap.size w _ := hA0
  go_wp2_with fail
  refine (awake_any _).mono ?_
  rintro e w1 ⟨rfl, hb1⟩
  obtain ⟨hc1, hf1⟩ := bcell hb1
  have hz1 := hb1.size
  simp at hz1
  replace hst0 := hst0.keep hb1
  replace kC := kC.keep hb1
  have hY1 := hZ0.trans (hb1.mono hZ0.size)
  have zkC_1 : w.heap.size < w1.heap.size := by omega
  obtain ⟨b0, o0, rfl, hlt0, hel0⟩ := Sl.pos encL encL_len hst0.sl (by omega)
  have e00 := hel0 w1 (Below.refl _ _) k hk 0 _ rfl
  rw [hx] at e00
  have e01 := hel0 w1 (Below.refl _ _) k hk 1 _ rfl
  rw [hx] at e01
  simp only [Nat.add_zero] at e00
  clear hel0
  go_wp2
  go_ret
  exact ⟨rfl, hY1⟩

set_option maxRecDepth 100000 in
set_option maxHeartbeats 4000000 in
theorem back_err (w : World) (A0 : Option Addr) (c0 : Nat) (now mx : Int) (ls : List Lk) (hst0 : LkV w (.agg #[.int .i64 now, .int .i64 mx, .slice A0 ls.length c0]) now mx ls) (k : Nat) (who : Int) (x : Lk) (h30 : ls.length ≤ 30) (hk : k < ls.length) (hx : ls[k] = x) (eA eG : Int) (lsA lsG : List Lk) (ho : (x.o == -1) = true) (hA : takeL now mx ls k who = (eA, lsA)) (hs : ls = lsA) (hG : giveL now mx lsA k who (-1) = (eG, lsG)) (hE : (eA != 0) = true) :
    Calls Try.prog 5 #[.agg #[.int .i64 now, .int .i64 mx, .slice A0 ls.length c0], .int .i64 (k : Int), .int .i64 who] w fun e w' => e = .returned (.bool true) ∧ Below w.heap.size w w' := by
  subst hs
  have h30' : ¬ (30 : Int) < (ls.length : Int) := by omega
  have hk0 : (0 : Int) ≤ (k : Int) := by omega
  have hk1 : (k : Int) < (ls.length : Int) := by omega
  have ho2 : (x.o != -1) = false := by simpa using ho
  have cA := fun v W hs => Take_any v now mx k who ls W hs (by omega)
  rw [hA] at cA
  have cG := fun v W hs => Give_any v now mx k who (-1) ls W hs (by omega)
  rw [hG] at cG
  have sA := fun v1 v2 W h1 h2 => LSame_any v1 v2 now mx now mx ls ls W h1 h2
  rw [sameL_refl] at sA
  clear hA hG
  go_enter Try.func5, Try.ntmps5
  have hA0 := ((Below.refl w.heap.size w).alloc (Nat.le_refl _) (.cells #[.int .i64 now, .int .i64 mx, .slice A0 ls.length c0] 24))
  replace hst0 := hst0.keep hA0
  have kC := Blk.new_ w 24 #[.int .i64 now, .int .i64 mx, .slice A0 ls.length c0] (w.heap.size) (by simp)
  have hZ0 : Below w.heap.size w _ := hA0
  go_wp2_with fail
  refine (awake_any _).mono ?_
  rintro e w1 ⟨rfl, hb1⟩
  obtain ⟨hc1, hf1⟩ := bcell hb1
  have hz1 := hb1.size
  simp at hz1
  replace hst0 := hst0.keep hb1
  replace kC := kC.keep hb1
  have hY1 := hZ0.trans (hb1.mono hZ0.size)
  have zkC_1 : w.heap.size < w1.heap.size := by omega
  obtain ⟨b0, o0, rfl, hlt0, hel0⟩ := Sl.pos encL encL_len hst0.sl (by omega)
  have e00 := hel0 w1 (Below.refl _ _) k hk 0 _ rfl
  rw [hx] at e00
  have e01 := hel0 w1 (Below.refl _ _) k hk 1 _ rfl
  rw [hx] at e01
  simp only [Nat.add_zero] at e00
  clear hel0
  have hZ1 : Below w.heap.size w w1 := hY1
  go_wp2_with fail
  refine (cA _ _ hst0).mono ?_
  rintro e w2 ⟨v2, rfl, hstA, hb2⟩
  obtain ⟨hc2, hf2⟩ := bcell hb2
  have hz2 := hb2.size
  replace hst0 := hst0.keep hb2
  replace kC := kC.keep hb2
  have hY2 := hZ1.trans (hb2.mono hZ1.size)
  have zkC_2 : w.heap.size < w2.heap.size := by omega
  replace hstA := hstA.to
  dsimp only at hstA
  obtain ⟨AA, dA, rfl, hstA⟩ := hstA.form
  have hA2 := ((Below.refl w2.heap.size w2).alloc (Nat.le_refl _) (.cells #[.int .i64 now, .int .i64 mx, .slice AA ls.length dA] 24))
  replace hst0 := hst0.keep hA2
  replace kC := kC.keep hA2
  replace hstA := hstA.keep hA2
  have kA := Blk.new_ w2 24 #[.int .i64 now, .int .i64 mx, .slice AA ls.length dA] (w2.heap.size) (by simp)
  have hZ2 : Below w.heap.size w _ := hY2.trans (hA2.mono hY2.size)
  go_wp2_with fail
  refine (cG _ _ hstA).mono ?_
  rintro e w3 ⟨v3, rfl, hstG, hb3⟩
  obtain ⟨hc3, hf3⟩ := bcell hb3
  have hz3 := hb3.size
  simp at hz3
  replace hst0 := hst0.keep hb3
  replace kC := kC.keep hb3
  replace hstA := hstA.keep hb3
  replace kA := kA.keep hb3
  have hY3 := hZ2.trans (hb3.mono hZ2.size)
  have zkC_3 : w.heap.size < w3.heap.size := by omega
  have zkA_3 : w2.heap.size < w3.heap.size := by omega
  replace hstG := hstG.to
  dsimp only at hstG
  obtain ⟨AG, dG, rfl, hstG⟩ := hstG.form
  have hA3 := ((Below.refl w3.heap.size w3).alloc (Nat.le_refl _) (.cells #[.int .i64 now, .int .i64 mx, .slice AG lsG.length dG] 24))
  replace hst0 := hst0.keep hA3
  replace kC := kC.keep hA3
  replace hstA := hstA.keep hA3
  replace kA := kA.keep hA3
  replace hstG := hstG.keep hA3
  have kG := Blk.new_ w3 24 #[.int .i64 now, .int .i64 mx, .slice AG lsG.length dG] (w3.heap.size) (by simp)
  have hZ3 : Below w.heap.size w _ := hY3.trans (hA3.mono hY3.size)
  go_wp2_with fail
  refine (sA _ _ _ hstA hst0).mono ?_
  rintro e w4 ⟨rfl, hb4⟩
  obtain ⟨hc4, hf4⟩ := bcell hb4
  have hz4 := hb4.size
  simp at hz4
  replace hst0 := hst0.keep hb4
  replace kC := kC.keep hb4
  replace hstA := hstA.keep hb4
  replace kA := kA.keep hb4
  replace hstG := hstG.keep hb4
  replace kG := kG.keep hb4
  have hY4 := hZ3.trans (hb4.mono hZ3.size)
  have zkC_4 : w.heap.size < w4.heap.size := by omega
  have zkA_4 : w2.heap.size < w4.heap.size := by omega
  have zkG_4 : w3.heap.size < w4.heap.size := by omega
  go_wp2
  go_ret
  exact ⟨rfl, hY4⟩

set_option maxRecDepth 100000 in
set_option maxHeartbeats 4000000 in
theorem back_end (w : World) (A0 : Option Addr) (c0 : Nat) (now mx : Int) (ls : List Lk) (hst0 : LkV w (.agg #[.int .i64 now, .int .i64 mx, .slice A0 ls.length c0]) now mx ls) (k : Nat) (who : Int) (x : Lk) (h30 : ls.length ≤ 30) (hk : k < ls.length) (hx : ls[k] = x) (lsA : List Lk) (ho : (x.o == -1) = true) (hl : lsA.length ≤ 30) (hA : takeL now mx ls k who = (0, lsA)) (hG : giveL now mx lsA k who (-1) = (0, ls)) (hn0 : 0 ≤ now) (hn1 : now ≤ 1000) (hT : tickL now mx lsA = (now, 0, 9)) (hnm : (now == mx) = true) :
    Calls Try.prog 5 #[.agg #[.int .i64 now, .int .i64 mx, .slice A0 ls.length c0], .int .i64 (k : Int), .int .i64 who] w fun e w' => e = .returned (.bool true) ∧ Below w.heap.size w w' := by
  have h30' : ¬ (30 : Int) < (ls.length : Int) := by omega
  have hk0 : (0 : Int) ≤ (k : Int) := by omega
  have hk1 : (k : Int) < (ls.length : Int) := by omega
  have ho2 : (x.o != -1) = false := by simpa using ho
  have cA := fun v W hs => Take_any v now mx k who ls W hs (by omega)
  rw [hA] at cA
  have cG := fun v W hs => Give_any v now mx k who (-1) lsA W hs (by omega)
  rw [hG] at cG
  have sA := fun v1 v2 W h1 h2 => LSame_any v1 v2 now mx now mx ls ls W h1 h2
  rw [sameL_refl] at sA
  have cT := fun v W hs => Tick_any v now mx lsA W hs (by omega)
  rw [hT] at cT
  clear hA hG hT hl
  go_enter Try.func5, Try.ntmps5
  have hA0 := ((Below.refl w.heap.size w).alloc (Nat.le_refl _) (.cells #[.int .i64 now, .int .i64 mx, .slice A0 ls.length c0] 24))
  replace hst0 := hst0.keep hA0
  have kC := Blk.new_ w 24 #[.int .i64 now, .int .i64 mx, .slice A0 ls.length c0] (w.heap.size) (by simp)
  have hZ0 : Below w.heap.size w _ := hA0
  go_wp2_with fail
  refine (awake_any _).mono ?_
  rintro e w1 ⟨rfl, hb1⟩
  obtain ⟨hc1, hf1⟩ := bcell hb1
  have hz1 := hb1.size
  simp at hz1
  replace hst0 := hst0.keep hb1
  replace kC := kC.keep hb1
  have hY1 := hZ0.trans (hb1.mono hZ0.size)
  have zkC_1 : w.heap.size < w1.heap.size := by omega
  obtain ⟨b0, o0, rfl, hlt0, hel0⟩ := Sl.pos encL encL_len hst0.sl (by omega)
  have e00 := hel0 w1 (Below.refl _ _) k hk 0 _ rfl
  rw [hx] at e00
  have e01 := hel0 w1 (Below.refl _ _) k hk 1 _ rfl
  rw [hx] at e01
  simp only [Nat.add_zero] at e00
  clear hel0
  have hZ1 : Below w.heap.size w w1 := hY1
  go_wp2_with fail
  refine (cA _ _ hst0).mono ?_
  rintro e w2 ⟨v2, rfl, hstA, hb2⟩
  obtain ⟨hc2, hf2⟩ := bcell hb2
  have hz2 := hb2.size
  replace hst0 := hst0.keep hb2
  replace kC := kC.keep hb2
  have hY2 := hZ1.trans (hb2.mono hZ1.size)
  have zkC_2 : w.heap.size < w2.heap.size := by omega
  replace hstA := hstA.to
  dsimp only at hstA
  obtain ⟨AA, dA, rfl, hstA⟩ := hstA.form
  have hA2 := ((Below.refl w2.heap.size w2).alloc (Nat.le_refl _) (.cells #[.int .i64 now, .int .i64 mx, .slice AA lsA.length dA] 24))
  replace hst0 := hst0.keep hA2
  replace kC := kC.keep hA2
  replace hstA := hstA.keep hA2
  have kA := Blk.new_ w2 24 #[.int .i64 now, .int .i64 mx, .slice AA lsA.length dA] (w2.heap.size) (by simp)
  have hZ2 : Below w.heap.size w _ := hY2.trans (hA2.mono hY2.size)
  go_wp2_with fail
  refine (cG _ _ hstA).mono ?_
  rintro e w3 ⟨v3, rfl, hstG, hb3⟩
  obtain ⟨hc3, hf3⟩ := bcell hb3
  have hz3 := hb3.size
  simp at hz3
  replace hst0 := hst0.keep hb3
  replace kC := kC.keep hb3
  replace hstA := hstA.keep hb3
  replace kA := kA.keep hb3
  have hY3 := hZ2.trans (hb3.mono hZ2.size)
  have zkC_3 : w.heap.size < w3.heap.size := by omega
  have zkA_3 : w2.heap.size < w3.heap.size := by omega
  replace hstG := hstG.to
  dsimp only at hstG
  obtain ⟨AG, dG, rfl, hstG⟩ := hstG.form
  have hA3 := ((Below.refl w3.heap.size w3).alloc (Nat.le_refl _) (.cells #[.int .i64 now, .int .i64 mx, .slice AG ls.length dG] 24))
  replace hst0 := hst0.keep hA3
  replace kC := kC.keep hA3
  replace hstA := hstA.keep hA3
  replace kA := kA.keep hA3
  replace hstG := hstG.keep hA3
  have kG := Blk.new_ w3 24 #[.int .i64 now, .int .i64 mx, .slice AG ls.length dG] (w3.heap.size) (by simp)
  have hZ3 : Below w.heap.size w _ := hY3.trans (hA3.mono hY3.size)
  go_wp2_with fail
  refine (sA _ _ _ hstG hst0).mono ?_
  rintro e w4 ⟨rfl, hb4⟩
  obtain ⟨hc4, hf4⟩ := bcell hb4
  have hz4 := hb4.size
  simp at hz4
  replace hst0 := hst0.keep hb4
  replace kC := kC.keep hb4
  replace hstA := hstA.keep hb4
  replace kA := kA.keep hb4
  replace hstG := hstG.keep hb4
  replace kG := kG.keep hb4
  have hY4 := hZ3.trans (hb4.mono hZ3.size)
  have zkC_4 : w.heap.size < w4.heap.size := by omega
  have zkA_4 : w2.heap.size < w4.heap.size := by omega
  have zkG_4 : w3.heap.size < w4.heap.size := by omega
  have hZ4 : Below w.heap.size w w4 := hY4
  go_wp2_with fail
  refine (cT _ _ hstA).mono ?_
  rintro e w5 ⟨v5, rfl, hstT, hb5⟩
  obtain ⟨hc5, hf5⟩ := bcell hb5
  have hz5 := hb5.size
  replace hst0 := hst0.keep hb5
  replace kC := kC.keep hb5
  replace hstA := hstA.keep hb5
  replace kA := kA.keep hb5
  replace hstG := hstG.keep hb5
  replace kG := kG.keep hb5
  have hY5 := hZ4.trans (hb5.mono hZ4.size)
  have zkC_5 : w.heap.size < w5.heap.size := by omega
  have zkA_5 : w2.heap.size < w5.heap.size := by omega
  have zkG_5 : w3.heap.size < w5.heap.size := by omega
  replace hstT := hstT.to
  dsimp only at hstT
  obtain ⟨AT, dT, rfl, hstT⟩ := hstT.form
  have hA5 := ((Below.refl w5.heap.size w5).alloc (Nat.le_refl _) (.cells #[.int .i64 now, .int .i64 mx, .slice AT lsA.length dT] 24))
  replace hst0 := hst0.keep hA5
  replace kC := kC.keep hA5
  replace hstA := hstA.keep hA5
  replace kA := kA.keep hA5
  replace hstG := hstG.keep hA5
  replace kG := kG.keep hA5
  replace hstT := hstT.keep hA5
  have kT := Blk.new_ w5 24 #[.int .i64 now, .int .i64 mx, .slice AT lsA.length dT] (w5.heap.size) (by simp)
  have hZ5 : Below w.heap.size w _ := hY5.trans (hA5.mono hY5.size)
  go_wp2
  go_ret
  exact ⟨rfl, hZ5⟩

set_option maxRecDepth 100000 in
set_option maxHeartbeats 4000000 in
theorem back_main (w : World) (A0 : Option Addr) (c0 : Nat) (now mx : Int) (ls : List Lk) (hst0 : LkV w (.agg #[.int .i64 now, .int .i64 mx, .slice A0 ls.length c0]) now mx ls) (k : Nat) (who : Int) (x : Lk) (h30 : ls.length ≤ 30) (hk : k < ls.length) (hx : ls[k] = x) (lsA : List Lk) (ho : (x.o == -1) = true) (hl : lsA.length ≤ 30) (hA : takeL now mx ls k who = (0, lsA)) (hG : giveL now mx lsA k who (-1) = (0, ls)) (hn0 : 0 ≤ now) (hn1 : now ≤ 1000) (lsD : List Lk) (hT : tickL now mx lsA = (now + 1, now + 1, 0)) (hD : giveL (now + 1) mx lsA k who (now + 1) = (0, lsD)) (hlD : k < lsD.length) (hxD : lsD[k] = ⟨now + 1, -1⟩) (h1 : seesL (now + 1) mx lsD k (now + 1) who = true) (h2 : seesL (now + 1) mx lsD k now who = false) (hmD : mayL (now + 1) mx lsD = true) :
    Calls Try.prog 5 #[.agg #[.int .i64 now, .int .i64 mx, .slice A0 ls.length c0], .int .i64 (k : Int), .int .i64 who] w fun e w' => e = .returned (.bool true) ∧ Below w.heap.size w w' := by
  have h30' : ¬ (30 : Int) < (ls.length : Int) := by omega
  have hk0 : (0 : Int) ≤ (k : Int) := by omega
  have hk1 : (k : Int) < (ls.length : Int) := by omega
  have ho2 : (x.o != -1) = false := by simpa using ho
  have cA := fun v W hs => Take_any v now mx k who ls W hs (by omega)
  rw [hA] at cA
  have cG := fun v W hs => Give_any v now mx k who (-1) lsA W hs (by omega)
  rw [hG] at cG
  have sA := fun v1 v2 W h1 h2 => LSame_any v1 v2 now mx now mx ls ls W h1 h2
  rw [sameL_refl] at sA
  have cT := fun v W hs => Tick_any v now mx lsA W hs (by omega)
  rw [hT] at cT
  have cD := fun v W hs => Give_any v (now + 1) mx k who (now + 1) lsA W hs (by omega)
  rw [hD] at cD
  have t1 := fun v W hs => Sees_any v (now + 1) mx k (now + 1) who lsD W hs
  rw [h1] at t1
  have t2 := fun v W hs => Sees_any v (now + 1) mx k now who lsD W hs
  rw [h2] at t2
  have mD := fun sv W h => lmay_any (now + 1) mx sv lsD W h
  rw [hmD] at mD
  have hk2 : (k : Int) < (lsD.length : Int) := by omega
  clear hA hG hT hD h1 h2 hmD hl
  go_enter Try.func5, Try.ntmps5
  have hA0 := ((Below.refl w.heap.size w).alloc (Nat.le_refl _) (.cells #[.int .i64 now, .int .i64 mx, .slice A0 ls.length c0] 24))
  replace hst0 := hst0.keep hA0
  have kC := Blk.new_ w 24 #[.int .i64 now, .int .i64 mx, .slice A0 ls.length c0] (w.heap.size) (by simp)
  have hZ0 : Below w.heap.size w _ := hA0
  go_wp2_with fail
  refine (awake_any _).mono ?_
  rintro e w1 ⟨rfl, hb1⟩
  obtain ⟨hc1, hf1⟩ := bcell hb1
  have hz1 := hb1.size
  simp at hz1
  replace hst0 := hst0.keep hb1
  replace kC := kC.keep hb1
  have hY1 := hZ0.trans (hb1.mono hZ0.size)
  have zkC_1 : w.heap.size < w1.heap.size := by omega
  obtain ⟨b0, o0, rfl, hlt0, hel0⟩ := Sl.pos encL encL_len hst0.sl (by omega)
  have e00 := hel0 w1 (Below.refl _ _) k hk 0 _ rfl
  rw [hx] at e00
  have e01 := hel0 w1 (Below.refl _ _) k hk 1 _ rfl
  rw [hx] at e01
  simp only [Nat.add_zero] at e00
  clear hel0
  have hZ1 : Below w.heap.size w w1 := hY1
  go_wp2_with fail
  refine (cA _ _ hst0).mono ?_
  rintro e w2 ⟨v2, rfl, hstA, hb2⟩
  obtain ⟨hc2, hf2⟩ := bcell hb2
  have hz2 := hb2.size
  replace hst0 := hst0.keep hb2
  replace kC := kC.keep hb2
  have hY2 := hZ1.trans (hb2.mono hZ1.size)
  have zkC_2 : w.heap.size < w2.heap.size := by omega
  replace hstA := hstA.to
  dsimp only at hstA
  obtain ⟨AA, dA, rfl, hstA⟩ := hstA.form
  have hA2 := ((Below.refl w2.heap.size w2).alloc (Nat.le_refl _) (.cells #[.int .i64 now, .int .i64 mx, .slice AA lsA.length dA] 24))
  replace hst0 := hst0.keep hA2
  replace kC := kC.keep hA2
  replace hstA := hstA.keep hA2
  have kA := Blk.new_ w2 24 #[.int .i64 now, .int .i64 mx, .slice AA lsA.length dA] (w2.heap.size) (by simp)
  have hZ2 : Below w.heap.size w _ := hY2.trans (hA2.mono hY2.size)
  go_wp2_with fail
  refine (cG _ _ hstA).mono ?_
  rintro e w3 ⟨v3, rfl, hstG, hb3⟩
  obtain ⟨hc3, hf3⟩ := bcell hb3
  have hz3 := hb3.size
  simp at hz3
  replace hst0 := hst0.keep hb3
  replace kC := kC.keep hb3
  replace hstA := hstA.keep hb3
  replace kA := kA.keep hb3
  have hY3 := hZ2.trans (hb3.mono hZ2.size)
  have zkC_3 : w.heap.size < w3.heap.size := by omega
  have zkA_3 : w2.heap.size < w3.heap.size := by omega
  replace hstG := hstG.to
  dsimp only at hstG
  obtain ⟨AG, dG, rfl, hstG⟩ := hstG.form
  have hA3 := ((Below.refl w3.heap.size w3).alloc (Nat.le_refl _) (.cells #[.int .i64 now, .int .i64 mx, .slice AG ls.length dG] 24))
  replace hst0 := hst0.keep hA3
  replace kC := kC.keep hA3
  replace hstA := hstA.keep hA3
  replace kA := kA.keep hA3
  replace hstG := hstG.keep hA3
  have kG := Blk.new_ w3 24 #[.int .i64 now, .int .i64 mx, .slice AG ls.length dG] (w3.heap.size) (by simp)
  have hZ3 : Below w.heap.size w _ := hY3.trans (hA3.mono hY3.size)
  go_wp2_with fail
  refine (sA _ _ _ hstG hst0).mono ?_
  rintro e w4 ⟨rfl, hb4⟩
  obtain ⟨hc4, hf4⟩ := bcell hb4
  have hz4 := hb4.size
  simp at hz4
  replace hst0 := hst0.keep hb4
  replace kC := kC.keep hb4
  replace hstA := hstA.keep hb4
  replace kA := kA.keep hb4
  replace hstG := hstG.keep hb4
  replace kG := kG.keep hb4
  have hY4 := hZ3.trans (hb4.mono hZ3.size)
  have zkC_4 : w.heap.size < w4.heap.size := by omega
  have zkA_4 : w2.heap.size < w4.heap.size := by omega
  have zkG_4 : w3.heap.size < w4.heap.size := by omega
  have hZ4 : Below w.heap.size w w4 := hY4
  go_wp2_with fail
  refine (cT _ _ hstA).mono ?_
  rintro e w5 ⟨v5, rfl, hstT, hb5⟩
  obtain ⟨hc5, hf5⟩ := bcell hb5
  have hz5 := hb5.size
  replace hst0 := hst0.keep hb5
  replace kC := kC.keep hb5
  replace hstA := hstA.keep hb5
  replace kA := kA.keep hb5
  replace hstG := hstG.keep hb5
  replace kG := kG.keep hb5
  have hY5 := hZ4.trans (hb5.mono hZ4.size)
  have zkC_5 : w.heap.size < w5.heap.size := by omega
  have zkA_5 : w2.heap.size < w5.heap.size := by omega
  have zkG_5 : w3.heap.size < w5.heap.size := by omega
  replace hstT := hstT.to
  dsimp only at hstT
  obtain ⟨AT, dT, rfl, hstT⟩ := hstT.form
  have hA5 := ((Below.refl w5.heap.size w5).alloc (Nat.le_refl _) (.cells #[.int .i64 (now + 1), .int .i64 mx, .slice AT lsA.length dT] 24))
  replace hst0 := hst0.keep hA5
  replace kC := kC.keep hA5
  replace hstA := hstA.keep hA5
  replace kA := kA.keep hA5
  replace hstG := hstG.keep hA5
  replace kG := kG.keep hA5
  replace hstT := hstT.keep hA5
  have kT := Blk.new_ w5 24 #[.int .i64 (now + 1), .int .i64 mx, .slice AT lsA.length dT] (w5.heap.size) (by simp)
  have hZ5 : Below w.heap.size w _ := hY5.trans (hA5.mono hY5.size)
  go_wp2_with fail
  refine (cD _ _ hstT).mono ?_
  rintro e w6 ⟨v6, rfl, hstD, hb6⟩
  obtain ⟨hc6, hf6⟩ := bcell hb6
  have hz6 := hb6.size
  simp at hz6
  replace hst0 := hst0.keep hb6
  replace kC := kC.keep hb6
  replace hstA := hstA.keep hb6
  replace kA := kA.keep hb6
  replace hstG := hstG.keep hb6
  replace kG := kG.keep hb6
  replace hstT := hstT.keep hb6
  replace kT := kT.keep hb6
  have hY6 := hZ5.trans (hb6.mono hZ5.size)
  have zkC_6 : w.heap.size < w6.heap.size := by omega
  have zkA_6 : w2.heap.size < w6.heap.size := by omega
  have zkG_6 : w3.heap.size < w6.heap.size := by omega
  have zkT_6 : w5.heap.size < w6.heap.size := by omega
  replace hstD := hstD.to
  dsimp only at hstD
  obtain ⟨AD, dD, rfl, hstD⟩ := hstD.form
  obtain ⟨bD, oD, rfl, hltD, helD⟩ := Sl.pos encL encL_len hstD.sl (by omega)
  have eD0 := helD w6 (Below.refl _ _) k hlD 0 _ rfl
  rw [hxD] at eD0
  have eD1 := helD w6 (Below.refl _ _) k hlD 1 _ rfl
  rw [hxD] at eD1
  simp only [Nat.add_zero] at eD0
  clear helD
  have hA6 := ((Below.refl w6.heap.size w6).alloc (Nat.le_refl _) (.cells #[.int .i64 (now + 1), .int .i64 mx, .slice (some ⟨bD, oD, none⟩) lsD.length dD] 24))
  replace hst0 := hst0.keep hA6
  replace kC := kC.keep hA6
  replace hstA := hstA.keep hA6
  replace kA := kA.keep hA6
  replace hstG := hstG.keep hA6
  replace kG := kG.keep hA6
  replace hstT := hstT.keep hA6
  replace kT := kT.keep hA6
  replace hstD := hstD.keep hA6
  have kD := Blk.new_ w6 24 #[.int .i64 (now + 1), .int .i64 mx, .slice (some ⟨bD, oD, none⟩) lsD.length dD] (w6.heap.size) (by simp)
  have hZ6 : Below w.heap.size w _ := hY6.trans (hA6.mono hY6.size)
  go_wp2_with fail
  refine (t1 _ _ hstD).mono ?_
  rintro e w7 ⟨rfl, hb7⟩
  obtain ⟨hc7, hf7⟩ := bcell hb7
  have hz7 := hb7.size
  simp at hz7
  replace hst0 := hst0.keep hb7
  replace kC := kC.keep hb7
  replace hstA := hstA.keep hb7
  replace kA := kA.keep hb7
  replace hstG := hstG.keep hb7
  replace kG := kG.keep hb7
  replace hstT := hstT.keep hb7
  replace kT := kT.keep hb7
  replace hstD := hstD.keep hb7
  replace kD := kD.keep hb7
  have hY7 := hZ6.trans (hb7.mono hZ6.size)
  have zkC_7 : w.heap.size < w7.heap.size := by omega
  have zkA_7 : w2.heap.size < w7.heap.size := by omega
  have zkG_7 : w3.heap.size < w7.heap.size := by omega
  have zkT_7 : w5.heap.size < w7.heap.size := by omega
  have zkD_7 : w6.heap.size < w7.heap.size := by omega
  have hZ7 : Below w.heap.size w w7 := hY7
  go_wp2_with fail
  refine (t2 _ _ hstD).mono ?_
  rintro e w8 ⟨rfl, hb8⟩
  obtain ⟨hc8, hf8⟩ := bcell hb8
  have hz8 := hb8.size
  replace hst0 := hst0.keep hb8
  replace kC := kC.keep hb8
  replace hstA := hstA.keep hb8
  replace kA := kA.keep hb8
  replace hstG := hstG.keep hb8
  replace kG := kG.keep hb8
  replace hstT := hstT.keep hb8
  replace kT := kT.keep hb8
  replace hstD := hstD.keep hb8
  replace kD := kD.keep hb8
  have hY8 := hZ7.trans (hb8.mono hZ7.size)
  have zkC_8 : w.heap.size < w8.heap.size := by omega
  have zkA_8 : w2.heap.size < w8.heap.size := by omega
  have zkG_8 : w3.heap.size < w8.heap.size := by omega
  have zkT_8 : w5.heap.size < w8.heap.size := by omega
  have zkD_8 : w6.heap.size < w8.heap.size := by omega
  have hZ8 : Below w.heap.size w w8 := hY8
  go_wp2_with fail
  refine (mD _ _ hstD.sl).mono ?_
  rintro e w9 ⟨rfl, hb9⟩
  obtain ⟨hc9, hf9⟩ := bcell hb9
  have hz9 := hb9.size
  replace hst0 := hst0.keep hb9
  replace kC := kC.keep hb9
  replace hstA := hstA.keep hb9
  replace kA := kA.keep hb9
  replace hstG := hstG.keep hb9
  replace kG := kG.keep hb9
  replace hstT := hstT.keep hb9
  replace kT := kT.keep hb9
  replace hstD := hstD.keep hb9
  replace kD := kD.keep hb9
  have hY9 := hZ8.trans (hb9.mono hZ8.size)
  have zkC_9 : w.heap.size < w9.heap.size := by omega
  have zkA_9 : w2.heap.size < w9.heap.size := by omega
  have zkG_9 : w3.heap.size < w9.heap.size := by omega
  have zkT_9 : w5.heap.size < w9.heap.size := by omega
  have zkD_9 : w6.heap.size < w9.heap.size := by omega
  go_wp2
  go_ret
  exact ⟨rfl, hY9⟩

theorem lockBack_walk (w : World) (v0 : Value) (now mx : Int) (ls : List Lk) (hst0 : LkV w v0 now mx ls) (_wn : okI now) (_wm : okI mx) (_hok : ∀ q ∈ ls, lkOk q) (i : Int) (_w1 : (Lit.int .i64 i).wf = true) (who : Int) (_w2 : (Lit.int .i64 who).wf = true) :
    Calls Try.prog 5 #[v0, .int .i64 i, .int .i64 who] w fun e w' => e = .returned (.bool true) ∧ Below w.heap.size w w' := by
  obtain ⟨A0, c0, rfl, hst0⟩ := hst0.form
  by_cases h30 : 30 < ls.length
  · exact back_long w A0 c0 now mx ls hst0 i who h30
  have h30 : ls.length ≤ 30 := by omega
  by_cases hi : i < 0
  · exact back_neg w A0 c0 now mx ls hst0 i who h30 hi
  by_cases hi2 : (ls.length : Int) ≤ i
  · exact back_big w A0 c0 now mx ls hst0 i who h30 hi hi2
  obtain ⟨k, rfl⟩ := Int.eq_ofNat_of_zero_le (Int.not_lt.1 hi)
  have hk : k < ls.length := by omega
  cases ho : (ls[k].o == -1) with
  | false => exact back_held w A0 c0 now mx ls hst0 k who _ h30 hk rfl ho
  | true =>
    have ho1 : ls[k].o = -1 := by simpa using ho
    by_cases hA : (takeL now mx ls k who).1 = 0
    · obtain ⟨k', hk', hm, hw0, hw4, _, hf, hA⟩ := take_ok hA
      obtain rfl : k = k' := by omega
      have hbd := may_at hm k hk
      have hmm := (may_iff.1 hm)
      have hmA := may_set hm k ⟨ls[k].v, who⟩ ⟨hbd.1, hbd.2.1, by show -1 ≤ who; omega, hw4⟩
      have hkA : k < (ls.set k ⟨ls[k].v, who⟩).length := by simpa using hk
      have hG : giveL now mx (ls.set k ⟨ls[k].v, who⟩) k who (-1) = (0, ls) := by
        rw [give_in hmA hkA hw0 hw4 (by omega) (by omega), if_pos (by simp), if_neg (by simp)]
        simp only [List.getElem_set_self, List.set_set, Prod.mk.injEq, true_and]
        rw [show (⟨max ls[k].v (-1), -1⟩ : Lk) = ls[k] from by
          rw [show max ls[k].v (-1) = ls[k].v from by omega, ← ho1]]
        exact List.set_getElem_self hk
      cases hnm : (now == mx) with
      | true => exact back_end w A0 c0 now mx ls hst0 k who _ h30 hk rfl _ ho (by simpa using h30) hA hG (by omega) (by omega) (by simp [tickL, hmA, hnm]) hnm
      | false =>
        have hlt : now < mx := by have : now ≠ mx := (by simpa using hnm); omega
        have hmB := may_tick hmA hlt
        have hD : giveL (now + 1) mx (ls.set k ⟨ls[k].v, who⟩) k who (now + 1) = (0, ls.set k ⟨now + 1, -1⟩) := by
          rw [give_in hmB hkA hw0 hw4 (by omega) (by omega), if_pos (by simp), if_neg (by simp; omega)]
          simp only [List.getElem_set_self, List.set_set, Prod.mk.injEq, true_and]
          rw [show max ls[k].v (now + 1) = now + 1 from by omega]
        have hmD : mayL (now + 1) mx (ls.set k ⟨now + 1, -1⟩) = true := by
          have := may_set hmB k ⟨now + 1, -1⟩ ⟨by show 0 ≤ now + 1; omega, Int.le_refl _, Int.le_refl _, by show (-1 : Int) < 4; omega⟩
          rwa [List.set_set] at this
        have hkD : k < (ls.set k (⟨now + 1, -1⟩ : Lk)).length := by simpa using hk
        refine back_main w A0 c0 now mx ls hst0 k who _ h30 hk rfl _ ho (by simpa using h30) hA hG (by omega) (by omega) _ (by simp [tickL, hmA, hnm]) hD hkD (by simp) ?_ ?_ hmD
        · rw [sees_in hmD hkD]; simp [freeH]
        · rw [sees_in hmD hkD]; simp [freeH]; omega
    · exact back_err w A0 c0 now mx ls hst0 k who _ h30 hk rfl (takeL now mx ls k who).1 _ (takeL now mx ls k who).2 _ ho rfl (take_err hA).symm rfl (by rw [bne_iff_ne]; exact hA)

end Go.Proofs.Ytkmdifngljdpeaa
