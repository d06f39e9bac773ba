/- The walk of LockStays. -/
import Derived.Test.YtkmdifngljdpeaaLkPlain
import Derived.Test.YtkmdifngljdpeaaLkOpen
import Derived.Deep.DeepCutAuto
namespace Go.Proofs.Ytkmdifngljdpeaa
open Go Go.RowKit
set_option linter.unusedVariables false

set_option maxRecDepth 100000 in
set_option maxHeartbeats 4000000 in
theorem stays_long (w : World) (A0 : Option Addr) (c0 : Nat) (now mx : Int) (ls : List Lk) (hst0 : LkV w (.agg #[.int .i64 now, .int .i64 mx, .slice A0 ls.length c0]) now mx ls) (i who ver k : Int) (h30 : 30 < ls.length) :
    Calls Try.prog 6 #[.agg #[.int .i64 now, .int .i64 mx, .slice A0 ls.length c0], .int .i64 i, .int .i64 who, .int .i64 ver, .int .i64 k] w fun e w' => e = .returned (.bool true) ∧ Below w.heap.size w w' := by
  have h30' : (30 : Int) < (ls.length : Int) := by omega
  go_enter Try.func6, Try.ntmps6
  have hA0 := ((Below.refl w.heap.size w).alloc (Nat.le_refl _) (.cells #[.int .i64 now, .int .i64 mx, .slice A0 ls.length c0] 24))
  replace hst0 := hst0.keep hA0
  have kC := Blk.new_ w 24 #[.int .i64 now, .int .i64 mx, .slice A0 ls.length c0] (w.heap.size) (by simp)
  have hZ0 : Below w.heap.size w _ := hA0
  go_wp2_with fail
  refine (awake_any _).mono ?_
  rintro e w1 ⟨rfl, hb1⟩
  obtain ⟨hc1, hf1⟩ := bcell hb1
  have hz1 := hb1.size
  simp at hz1
  replace hst0 := hst0.keep hb1
  replace kC := kC.keep hb1
  have hY1 := hZ0.trans (hb1.mono hZ0.size)
  have zkC_1 : w.heap.size < w1.heap.size := by omega
  go_wp2
  go_ret
  exact ⟨rfl, hY1⟩

set_option maxRecDepth 100000 in
set_option maxHeartbeats 4000000 in
theorem stays_not (w : World) (A0 : Option Addr) (c0 : Nat) (now mx : Int) (ls : List Lk) (hst0 : LkV w (.agg #[.int .i64 now, .int .i64 mx, .slice A0 ls.length c0]) now mx ls) (i who ver k : Int) (h30 : ls.length ≤ 30) (hm : mayL now mx ls = false) :
    Calls Try.prog 6 #[.agg #[.int .i64 now, .int .i64 mx, .slice A0 ls.length c0], .int .i64 i, .int .i64 who, .int .i64 ver, .int .i64 k] w fun e w' => e = .returned (.bool true) ∧ Below w.heap.size w w' := by
  have h30' : ¬ (30 : Int) < (ls.length : Int) := by omega
  have hmay := fun sv W h => lmay_any now mx sv ls W h
  rw [hm] at hmay
  go_enter Try.func6, Try.ntmps6
  have hA0 := ((Below.refl w.heap.size w).alloc (Nat.le_refl _) (.cells #[.int .i64 now, .int .i64 mx, .slice A0 ls.length c0] 24))
  replace hst0 := hst0.keep hA0
  have kC := Blk.new_ w 24 #[.int .i64 now, .int .i64 mx, .slice A0 ls.length c0] (w.heap.size) (by simp)
  have hZ0 : Below w.heap.size w _ := hA0
  go_wp2_with fail
  refine (awake_any _).mono ?_
  rintro e w1 ⟨rfl, hb1⟩
  obtain ⟨hc1, hf1⟩ := bcell hb1
  have hz1 := hb1.size
  simp at hz1
  replace hst0 := hst0.keep hb1
  replace kC := kC.keep hb1
  have hY1 := hZ0.trans (hb1.mono hZ0.size)
  have zkC_1 : w.heap.size < w1.heap.size := by omega
  have hZ1 : Below w.heap.size w w1 := hY1
  go_wp2_with fail
  refine (hmay _ _ hst0.sl).mono ?_
  rintro e w2 ⟨rfl, hb2⟩
  obtain ⟨hc2, hf2⟩ := bcell hb2
  have hz2 := hb2.size
  replace hst0 := hst0.keep hb2
  replace kC := kC.keep hb2
  have hY2 := hZ1.trans (hb2.mono hZ1.size)
  have zkC_2 : w.heap.size < w2.heap.size := by omega
  go_wp2
  go_ret
  exact ⟨rfl, hY2⟩

set_option maxRecDepth 100000 in
set_option maxHeartbeats 4000000 in
theorem stays_main (w : World) (A0 : Option Addr) (c0 : Nat) (now mx : Int) (ls : List Lk) (hst0 : LkV w (.agg #[.int .i64 now, .int .i64 mx, .slice A0 ls.length c0]) now mx ls) (i who ver k eA eB nT rT eT : Int) (lsA lsB : List Lk) (h30 : ls.length ≤ 30) (hm : mayL now mx ls = true)
    (hA : takeL now mx ls i who = (eA, lsA)) (hB : giveL now mx ls i who ver = (eB, lsB)) (hT : tickL now mx ls = (nT, rT, eT)) (hmA : mayL now mx lsA = true) (hmB : mayL now mx lsB = true) (hmT : mayL nT mx ls = true)
    (hsA : (eA != 0) = true → lsA = ls) (hsB : (eB != 0) = true → lsB = ls) (hsT : (eT != 0) = true → nT = now) (hnT : ¬ nT < now) (hlA : lsA.length = ls.length) (hlB : lsB.length = ls.length)
    (hk : ∀ n (h : n < ls.length) (hb : n < lsB.length) (ha : n < lsA.length), ls[n].v ≤ lsB[n].v ∧ ((n : Int) ≠ i → lsB[n] = ls[n] ∧ lsA[n] = ls[n])) :
    Calls Try.prog 6 #[.agg #[.int .i64 now, .int .i64 mx, .slice A0 ls.length c0], .int .i64 i, .int .i64 who, .int .i64 ver, .int .i64 k] w fun e w' => e = .returned (.bool true) ∧ Below w.heap.size w w' := by
  have h30' : ¬ (30 : Int) < (ls.length : Int) := by omega
  have hmay := fun sv W h => lmay_any now mx sv ls W h
  rw [hm] at hmay
  have cA := fun v W hs => Take_any v now mx i who ls W hs (by omega)
  rw [hA] at cA
  have cB := fun v W hs => Give_any v now mx i who ver ls W hs (by omega)
  rw [hB] at cB
  have cT := fun v W hs => Tick_any v now mx ls W hs (by omega)
  rw [hT] at cT
  have mA := fun sv W h => lmay_any now mx sv lsA W h
  rw [hmA] at mA
  have mB := fun sv W h => lmay_any now mx sv lsB W h
  rw [hmB] at mB
  have mT := fun sv W h => lmay_any nT mx sv ls W h
  rw [hmT] at mT
  have sA : (eA != 0) = true → ∀ v1 v2 (W : World) (h1 : LkV W v1 now mx lsA) (h2 : LkV W v2 now mx ls), Calls Try.prog 23 #[v1, v2] W fun e w' => e = .returned (.bool true) ∧ Below W.heap.size W w' := fun hh v1 v2 W h1 h2 => by have := LSame_any v1 v2 now mx now mx lsA ls W h1 h2; rw [hsA hh, sameL_refl] at this; exact this
  have sB : (eB != 0) = true → ∀ v1 v2 (W : World) (h1 : LkV W v1 now mx lsB) (h2 : LkV W v2 now mx ls), Calls Try.prog 23 #[v1, v2] W fun e w' => e = .returned (.bool true) ∧ Below W.heap.size W w' := fun hh v1 v2 W h1 h2 => by have := LSame_any v1 v2 now mx now mx lsB ls W h1 h2; rw [hsB hh, sameL_refl] at this; exact this
  have sT : (eT != 0) = true → ∀ v1 v2 (W : World) (h1 : LkV W v1 nT mx ls) (h2 : LkV W v2 now mx ls), Calls Try.prog 23 #[v1, v2] W fun e w' => e = .returned (.bool true) ∧ Below W.heap.size W w' := fun hh v1 v2 W h1 h2 => by have := LSame_any v1 v2 nT mx now mx ls ls W h1 h2; rw [hsT hh, sameL_refl] at this; exact this
  have HK := Lib.hid hk
  have HLB := Lib.hid hlB
  have HLA := Lib.hid hlA
  clear hA hB hT hm hmA hmB hmT hsA hsB hsT hlA hlB hk
  go_enter Try.func6, Try.ntmps6
  have hA0 := ((Below.refl w.heap.size w).alloc (Nat.le_refl _) (.cells #[.int .i64 now, .int .i64 mx, .slice A0 ls.length c0] 24))
  replace hst0 := hst0.keep hA0
  have kC := Blk.new_ w 24 #[.int .i64 now, .int .i64 mx, .slice A0 ls.length c0] (w.heap.size) (by simp)
  have hZ0 : Below w.heap.size w _ := hA0
  go_wp2_with fail
  refine (awake_any _).mono ?_
  rintro e w1 ⟨rfl, hb1⟩
  obtain ⟨hc1, hf1⟩ := bcell hb1
  have hz1 := hb1.size
  simp at hz1
  replace hst0 := hst0.keep hb1
  replace kC := kC.keep hb1
  have hY1 := hZ0.trans (hb1.mono hZ0.size)
  have zkC_1 : w.heap.size < w1.heap.size := by omega
  have hZ1 : Below w.heap.size w w1 := hY1
  go_wp2_with fail
  refine (hmay _ _ hst0.sl).mono ?_
  rintro e w2 ⟨rfl, hb2⟩
  obtain ⟨hc2, hf2⟩ := bcell hb2
  have hz2 := hb2.size
  replace hst0 := hst0.keep hb2
  replace kC := kC.keep hb2
  have hY2 := hZ1.trans (hb2.mono hZ1.size)
  have zkC_2 : w.heap.size < w2.heap.size := by omega
  have hZ2 : Below w.heap.size w w2 := hY2
  go_wp2_with fail
  refine (cA _ _ hst0).mono ?_
  rintro e w3 ⟨v3, rfl, hstA, hb3⟩
  obtain ⟨hc3, hf3⟩ := bcell hb3
  have hz3 := hb3.size
  replace hst0 := hst0.keep hb3
  replace kC := kC.keep hb3
  have hY3 := hZ2.trans (hb3.mono hZ2.size)
  have zkC_3 : w.heap.size < w3.heap.size := by omega
  replace hstA := hstA.to
  dsimp only at hstA
  obtain ⟨AA, dA, rfl, hstA⟩ := hstA.form
  have hA3 := ((Below.refl w3.heap.size w3).alloc (Nat.le_refl _) (.cells #[.int .i64 now, .int .i64 mx, .slice AA lsA.length dA] 24))
  replace hst0 := hst0.keep hA3
  replace kC := kC.keep hA3
  replace hstA := hstA.keep hA3
  have kA := Blk.new_ w3 24 #[.int .i64 now, .int .i64 mx, .slice AA lsA.length dA] (w3.heap.size) (by simp)
  have hZ3 : Below w.heap.size w _ := hY3.trans (hA3.mono hY3.size)
  go_wp2_with fail
  refine (cB _ _ hst0).mono ?_
  rintro e w4 ⟨v4, rfl, hstB, hb4⟩
  obtain ⟨hc4, hf4⟩ := bcell hb4
  have hz4 := hb4.size
  simp at hz4
  replace hst0 := hst0.keep hb4
  replace kC := kC.keep hb4
  replace hstA := hstA.keep hb4
  replace kA := kA.keep hb4
  have hY4 := hZ3.trans (hb4.mono hZ3.size)
  have zkC_4 : w.heap.size < w4.heap.size := by omega
  have zkA_4 : w3.heap.size < w4.heap.size := by omega
  replace hstB := hstB.to
  dsimp only at hstB
  obtain ⟨AB, dB, rfl, hstB⟩ := hstB.form
  have hA4 := ((Below.refl w4.heap.size w4).alloc (Nat.le_refl _) (.cells #[.int .i64 now, .int .i64 mx, .slice AB lsB.length dB] 24))
  replace hst0 := hst0.keep hA4
  replace kC := kC.keep hA4
  replace hstA := hstA.keep hA4
  replace kA := kA.keep hA4
  replace hstB := hstB.keep hA4
  have kB := Blk.new_ w4 24 #[.int .i64 now, .int .i64 mx, .slice AB lsB.length dB] (w4.heap.size) (by simp)
  have hZ4 : Below w.heap.size w _ := hY4.trans (hA4.mono hY4.size)
  go_wp2_with fail
  refine (cT _ _ hst0).mono ?_
  rintro e w5 ⟨v5, rfl, hstT, hb5⟩
  obtain ⟨hc5, hf5⟩ := bcell hb5
  have hz5 := hb5.size
  simp at hz5
  replace hst0 := hst0.keep hb5
  replace kC := kC.keep hb5
  replace hstA := hstA.keep hb5
  replace kA := kA.keep hb5
  replace hstB := hstB.keep hb5
  replace kB := kB.keep hb5
  have hY5 := hZ4.trans (hb5.mono hZ4.size)
  have zkC_5 : w.heap.size < w5.heap.size := by omega
  have zkA_5 : w3.heap.size < w5.heap.size := by omega
  have zkB_5 : w4.heap.size < w5.heap.size := by omega
  replace hstT := hstT.to
  dsimp only at hstT
  obtain ⟨AT, dT, rfl, hstT⟩ := hstT.form
  go_upto_region 7 with fail
  have hA5 := ((Below.refl w5.heap.size w5).alloc (Nat.le_refl _) (.cells #[.int .i64 nT, .int .i64 mx, .slice AT ls.length dT] 24))
  replace hst0 := hst0.keep hA5
  replace kC := kC.keep hA5
  replace hstA := hstA.keep hA5
  replace kA := kA.keep hA5
  replace hstB := hstB.keep hA5
  replace kB := kB.keep hA5
  replace hstT := hstT.keep hA5
  have kT := Blk.new_ w5 24 #[.int .i64 nT, .int .i64 mx, .slice AT ls.length dT] (w5.heap.size) (by simp)
  have hZ5 : Below w.heap.size w _ := hY5.trans (hA5.mono hY5.size)
  obtain ⟨w6, hw6⟩ : ∃ x, (w5.alloc (.cells #[.int .i64 nT, .int .i64 mx, .slice AT ls.length dT] 24)) = x := ⟨_, rfl⟩
  rw [hw6] at hst0
  rw [hw6] at kC
  rw [hw6] at hstA
  rw [hw6] at kA
  rw [hw6] at hstB
  rw [hw6] at kB
  rw [hw6] at hstT
  rw [hw6] at kT
  have hY6 := hZ5
  rw [hw6] at hY6 ⊢
  clear hw6
  have zkC_6 : w.heap.size < w6.heap.size := kC.lt
  have kC_0 : w6.cell? ⟨w.heap.size, 0, none⟩ = some (.int .i64 now) := by rw [kC.cell]; rfl
  have kC_1 : w6.cell? ⟨w.heap.size, 1, none⟩ = some (.int .i64 mx) := by rw [kC.cell]; rfl
  have kC_2 : w6.cell? ⟨w.heap.size, 2, none⟩ = some (.slice A0 ls.length c0) := by rw [kC.cell]; rfl
  have zkA_6 : w3.heap.size < w6.heap.size := kA.lt
  have kA_0 : w6.cell? ⟨w3.heap.size, 0, none⟩ = some (.int .i64 now) := by rw [kA.cell]; rfl
  have kA_1 : w6.cell? ⟨w3.heap.size, 1, none⟩ = some (.int .i64 mx) := by rw [kA.cell]; rfl
  have kA_2 : w6.cell? ⟨w3.heap.size, 2, none⟩ = some (.slice AA lsA.length dA) := by rw [kA.cell]; rfl
  have zkB_6 : w4.heap.size < w6.heap.size := kB.lt
  have kB_0 : w6.cell? ⟨w4.heap.size, 0, none⟩ = some (.int .i64 now) := by rw [kB.cell]; rfl
  have kB_1 : w6.cell? ⟨w4.heap.size, 1, none⟩ = some (.int .i64 mx) := by rw [kB.cell]; rfl
  have kB_2 : w6.cell? ⟨w4.heap.size, 2, none⟩ = some (.slice AB lsB.length dB) := by rw [kB.cell]; rfl
  have zkT_6 : w5.heap.size < w6.heap.size := kT.lt
  have kT_0 : w6.cell? ⟨w5.heap.size, 0, none⟩ = some (.int .i64 nT) := by rw [kT.cell]; rfl
  have kT_1 : w6.cell? ⟨w5.heap.size, 1, none⟩ = some (.int .i64 mx) := by rw [kT.cell]; rfl
  have kT_2 : w6.cell? ⟨w5.heap.size, 2, none⟩ = some (.slice AT ls.length dT) := by rw [kT.cell]; rfl
  go_cut [82] (fun s82 wx => s82 = .bool false ∧ Below w6.heap.size w6 wx)
  case first =>
    cases qA : (eA != 0) <;> cases qB : (eB != 0) <;> cases qT : (eT != 0)
    · clear sA
      clear sB
      clear sT
      go_wp2_with fail
      go_meet
      exact ⟨rfl, Below.refl _ _⟩
    · clear sA
      clear sB
      have sT := sT qT
      have hZ6 : Below w.heap.size w w6 := hY6
      go_wp2_with fail
      refine (sT _ _ _ hstT hst0).mono ?_
      rintro e w7 ⟨rfl, hb7⟩
      obtain ⟨hc7, hf7⟩ := bcell hb7
      have hz7 := hb7.size
      replace hst0 := hst0.keep hb7
      replace kC := kC.keep hb7
      replace hstA := hstA.keep hb7
      replace kA := kA.keep hb7
      replace hstB := hstB.keep hb7
      replace kB := kB.keep hb7
      replace hstT := hstT.keep hb7
      replace kT := kT.keep hb7
      have hY7 := hZ6.trans (hb7.mono hZ6.size)
      have zkC_7 : w.heap.size < w7.heap.size := by omega
      have zkA_7 : w3.heap.size < w7.heap.size := by omega
      have zkB_7 : w4.heap.size < w7.heap.size := by omega
      have zkT_7 : w5.heap.size < w7.heap.size := by omega
      go_wp2_with fail
      go_meet
      exact ⟨rfl, hb7⟩
    · clear sA
      have sB := sB qB
      clear sT
      have hZ6 : Below w.heap.size w w6 := hY6
      go_wp2_with fail
      refine (sB _ _ _ hstB hst0).mono ?_
      rintro e w7 ⟨rfl, hb7⟩
      obtain ⟨hc7, hf7⟩ := bcell hb7
      have hz7 := hb7.size
      replace hst0 := hst0.keep hb7
      replace kC := kC.keep hb7
      replace hstA := hstA.keep hb7
      replace kA := kA.keep hb7
      replace hstB := hstB.keep hb7
      replace kB := kB.keep hb7
      replace hstT := hstT.keep hb7
      replace kT := kT.keep hb7
      have hY7 := hZ6.trans (hb7.mono hZ6.size)
      have zkC_7 : w.heap.size < w7.heap.size := by omega
      have zkA_7 : w3.heap.size < w7.heap.size := by omega
      have zkB_7 : w4.heap.size < w7.heap.size := by omega
      have zkT_7 : w5.heap.size < w7.heap.size := by omega
      go_wp2_with fail
      go_meet
      exact ⟨rfl, hb7⟩
    · clear sA
      have sB := sB qB
      have sT := sT qT
      have hZ6 : Below w.heap.size w w6 := hY6
      go_wp2_with fail
      refine (sB _ _ _ hstB hst0).mono ?_
      rintro e w7 ⟨rfl, hb7⟩
      obtain ⟨hc7, hf7⟩ := bcell hb7
      have hz7 := hb7.size
      replace hst0 := hst0.keep hb7
      replace kC := kC.keep hb7
      replace hstA := hstA.keep hb7
      replace kA := kA.keep hb7
      replace hstB := hstB.keep hb7
      replace kB := kB.keep hb7
      replace hstT := hstT.keep hb7
      replace kT := kT.keep hb7
      have hY7 := hZ6.trans (hb7.mono hZ6.size)
      have zkC_7 : w.heap.size < w7.heap.size := by omega
      have zkA_7 : w3.heap.size < w7.heap.size := by omega
      have zkB_7 : w4.heap.size < w7.heap.size := by omega
      have zkT_7 : w5.heap.size < w7.heap.size := by omega
      have hZ7 : Below w.heap.size w w7 := hY7
      go_wp2_with fail
      refine (sT _ _ _ hstT hst0).mono ?_
      rintro e w8 ⟨rfl, hb8⟩
      obtain ⟨hc8, hf8⟩ := bcell hb8
      have hz8 := hb8.size
      replace hst0 := hst0.keep hb8
      replace kC := kC.keep hb8
      replace hstA := hstA.keep hb8
      replace kA := kA.keep hb8
      replace hstB := hstB.keep hb8
      replace kB := kB.keep hb8
      replace hstT := hstT.keep hb8
      replace kT := kT.keep hb8
      have hY8 := hZ7.trans (hb8.mono hZ7.size)
      have zkC_8 : w.heap.size < w8.heap.size := by omega
      have zkA_8 : w3.heap.size < w8.heap.size := by omega
      have zkB_8 : w4.heap.size < w8.heap.size := by omega
      have zkT_8 : w5.heap.size < w8.heap.size := by omega
      go_wp2_with fail
      go_meet
      exact ⟨rfl, (hb7).trans (hb8.mono (hb7).size)⟩
    · have sA := sA qA
      clear sB
      clear sT
      have hZ6 : Below w.heap.size w w6 := hY6
      go_wp2_with fail
      refine (sA _ _ _ hstA hst0).mono ?_
      rintro e w7 ⟨rfl, hb7⟩
      obtain ⟨hc7, hf7⟩ := bcell hb7
      have hz7 := hb7.size
      replace hst0 := hst0.keep hb7
      replace kC := kC.keep hb7
      replace hstA := hstA.keep hb7
      replace kA := kA.keep hb7
      replace hstB := hstB.keep hb7
      replace kB := kB.keep hb7
      replace hstT := hstT.keep hb7
      replace kT := kT.keep hb7
      have hY7 := hZ6.trans (hb7.mono hZ6.size)
      have zkC_7 : w.heap.size < w7.heap.size := by omega
      have zkA_7 : w3.heap.size < w7.heap.size := by omega
      have zkB_7 : w4.heap.size < w7.heap.size := by omega
      have zkT_7 : w5.heap.size < w7.heap.size := by omega
      go_wp2_with fail
      go_meet
      exact ⟨rfl, hb7⟩
    · have sA := sA qA
      clear sB
      have sT := sT qT
      have hZ6 : Below w.heap.size w w6 := hY6
      go_wp2_with fail
      refine (sA _ _ _ hstA hst0).mono ?_
      rintro e w7 ⟨rfl, hb7⟩
      obtain ⟨hc7, hf7⟩ := bcell hb7
      have hz7 := hb7.size
      replace hst0 := hst0.keep hb7
      replace kC := kC.keep hb7
      replace hstA := hstA.keep hb7
      replace kA := kA.keep hb7
      replace hstB := hstB.keep hb7
      replace kB := kB.keep hb7
      replace hstT := hstT.keep hb7
      replace kT := kT.keep hb7
      have hY7 := hZ6.trans (hb7.mono hZ6.size)
      have zkC_7 : w.heap.size < w7.heap.size := by omega
      have zkA_7 : w3.heap.size < w7.heap.size := by omega
      have zkB_7 : w4.heap.size < w7.heap.size := by omega
      have zkT_7 : w5.heap.size < w7.heap.size := by omega
      have hZ7 : Below w.heap.size w w7 := hY7
      go_wp2_with fail
      refine (sT _ _ _ hstT hst0).mono ?_
      rintro e w8 ⟨rfl, hb8⟩
      obtain ⟨hc8, hf8⟩ := bcell hb8
      have hz8 := hb8.size
      replace hst0 := hst0.keep hb8
      replace kC := kC.keep hb8
      replace hstA := hstA.keep hb8
      replace kA := kA.keep hb8
      replace hstB := hstB.keep hb8
      replace kB := kB.keep hb8
      replace hstT := hstT.keep hb8
      replace kT := kT.keep hb8
      have hY8 := hZ7.trans (hb8.mono hZ7.size)
      have zkC_8 : w.heap.size < w8.heap.size := by omega
      have zkA_8 : w3.heap.size < w8.heap.size := by omega
      have zkB_8 : w4.heap.size < w8.heap.size := by omega
      have zkT_8 : w5.heap.size < w8.heap.size := by omega
      go_wp2_with fail
      go_meet
      exact ⟨rfl, (hb7).trans (hb8.mono (hb7).size)⟩
    · have sA := sA qA
      have sB := sB qB
      clear sT
      have hZ6 : Below w.heap.size w w6 := hY6
      go_wp2_with fail
      refine (sA _ _ _ hstA hst0).mono ?_
      rintro e w7 ⟨rfl, hb7⟩
      obtain ⟨hc7, hf7⟩ := bcell hb7
      have hz7 := hb7.size
      replace hst0 := hst0.keep hb7
      replace kC := kC.keep hb7
      replace hstA := hstA.keep hb7
      replace kA := kA.keep hb7
      replace hstB := hstB.keep hb7
      replace kB := kB.keep hb7
      replace hstT := hstT.keep hb7
      replace kT := kT.keep hb7
      have hY7 := hZ6.trans (hb7.mono hZ6.size)
      have zkC_7 : w.heap.size < w7.heap.size := by omega
      have zkA_7 : w3.heap.size < w7.heap.size := by omega
      have zkB_7 : w4.heap.size < w7.heap.size := by omega
      have zkT_7 : w5.heap.size < w7.heap.size := by omega
      have hZ7 : Below w.heap.size w w7 := hY7
      go_wp2_with fail
      refine (sB _ _ _ hstB hst0).mono ?_
      rintro e w8 ⟨rfl, hb8⟩
      obtain ⟨hc8, hf8⟩ := bcell hb8
      have hz8 := hb8.size
      replace hst0 := hst0.keep hb8
      replace kC := kC.keep hb8
      replace hstA := hstA.keep hb8
      replace kA := kA.keep hb8
      replace hstB := hstB.keep hb8
      replace kB := kB.keep hb8
      replace hstT := hstT.keep hb8
      replace kT := kT.keep hb8
      have hY8 := hZ7.trans (hb8.mono hZ7.size)
      have zkC_8 : w.heap.size < w8.heap.size := by omega
      have zkA_8 : w3.heap.size < w8.heap.size := by omega
      have zkB_8 : w4.heap.size < w8.heap.size := by omega
      have zkT_8 : w5.heap.size < w8.heap.size := by omega
      go_wp2_with fail
      go_meet
      exact ⟨rfl, (hb7).trans (hb8.mono (hb7).size)⟩
    · have sA := sA qA
      have sB := sB qB
      have sT := sT qT
      have hZ6 : Below w.heap.size w w6 := hY6
      go_wp2_with fail
      refine (sA _ _ _ hstA hst0).mono ?_
      rintro e w7 ⟨rfl, hb7⟩
      obtain ⟨hc7, hf7⟩ := bcell hb7
      have hz7 := hb7.size
      replace hst0 := hst0.keep hb7
      replace kC := kC.keep hb7
      replace hstA := hstA.keep hb7
      replace kA := kA.keep hb7
      replace hstB := hstB.keep hb7
      replace kB := kB.keep hb7
      replace hstT := hstT.keep hb7
      replace kT := kT.keep hb7
      have hY7 := hZ6.trans (hb7.mono hZ6.size)
      have zkC_7 : w.heap.size < w7.heap.size := by omega
      have zkA_7 : w3.heap.size < w7.heap.size := by omega
      have zkB_7 : w4.heap.size < w7.heap.size := by omega
      have zkT_7 : w5.heap.size < w7.heap.size := by omega
      have hZ7 : Below w.heap.size w w7 := hY7
      go_wp2_with fail
      refine (sB _ _ _ hstB hst0).mono ?_
      rintro e w8 ⟨rfl, hb8⟩
      obtain ⟨hc8, hf8⟩ := bcell hb8
      have hz8 := hb8.size
      replace hst0 := hst0.keep hb8
      replace kC := kC.keep hb8
      replace hstA := hstA.keep hb8
      replace kA := kA.keep hb8
      replace hstB := hstB.keep hb8
      replace kB := kB.keep hb8
      replace hstT := hstT.keep hb8
      replace kT := kT.keep hb8
      have hY8 := hZ7.trans (hb8.mono hZ7.size)
      have zkC_8 : w.heap.size < w8.heap.size := by omega
      have zkA_8 : w3.heap.size < w8.heap.size := by omega
      have zkB_8 : w4.heap.size < w8.heap.size := by omega
      have zkT_8 : w5.heap.size < w8.heap.size := by omega
      have hZ8 : Below w.heap.size w w8 := hY8
      go_wp2_with fail
      refine (sT _ _ _ hstT hst0).mono ?_
      rintro e w9 ⟨rfl, hb9⟩
      obtain ⟨hc9, hf9⟩ := bcell hb9
      have hz9 := hb9.size
      replace hst0 := hst0.keep hb9
      replace kC := kC.keep hb9
      replace hstA := hstA.keep hb9
      replace kA := kA.keep hb9
      replace hstB := hstB.keep hb9
      replace kB := kB.keep hb9
      replace hstT := hstT.keep hb9
      replace kT := kT.keep hb9
      have hY9 := hZ8.trans (hb9.mono hZ8.size)
      have zkC_9 : w.heap.size < w9.heap.size := by omega
      have zkA_9 : w3.heap.size < w9.heap.size := by omega
      have zkB_9 : w4.heap.size < w9.heap.size := by omega
      have zkT_9 : w5.heap.size < w9.heap.size := by omega
      go_wp2_with fail
      go_meet
      exact ⟨rfl, ((hb7).trans (hb8.mono (hb7).size)).trans (hb9.mono ((hb7).trans (hb8.mono (hb7).size)).size)⟩
  case rest =>
    obtain ⟨rfl, hb7⟩ := hcut
    obtain ⟨w7, rfl⟩ : ∃ x : World, x = wc := ⟨_, rfl⟩
    have hZ6 := hY6
    obtain ⟨hc7, hf7⟩ := bcell hb7
    have hz7 := hb7.size
    replace hst0 := hst0.keep hb7
    replace kC := kC.keep hb7
    replace hstA := hstA.keep hb7
    replace kA := kA.keep hb7
    replace hstB := hstB.keep hb7
    replace kB := kB.keep hb7
    replace hstT := hstT.keep hb7
    replace kT := kT.keep hb7
    have hY7 := hZ6.trans (hb7.mono hZ6.size)
    have zkC_7 : w.heap.size < w7.heap.size := by omega
    have zkA_7 : w3.heap.size < w7.heap.size := by omega
    have zkB_7 : w4.heap.size < w7.heap.size := by omega
    have zkT_7 : w5.heap.size < w7.heap.size := by omega
    clear sA
    clear sB
    clear sT
    have hZ7 : Below w.heap.size w w7 := hY7
    go_wp2_with fail
    refine (mA _ _ hstA.sl).mono ?_
    rintro e w8 ⟨rfl, hb8⟩
    obtain ⟨hc8, hf8⟩ := bcell hb8
    have hz8 := hb8.size
    replace hst0 := hst0.keep hb8
    replace kC := kC.keep hb8
    replace hstA := hstA.keep hb8
    replace kA := kA.keep hb8
    replace hstB := hstB.keep hb8
    replace kB := kB.keep hb8
    replace hstT := hstT.keep hb8
    replace kT := kT.keep hb8
    have hY8 := hZ7.trans (hb8.mono hZ7.size)
    have zkC_8 : w.heap.size < w8.heap.size := by omega
    have zkA_8 : w3.heap.size < w8.heap.size := by omega
    have zkB_8 : w4.heap.size < w8.heap.size := by omega
    have zkT_8 : w5.heap.size < w8.heap.size := by omega
    have hZ8 : Below w.heap.size w w8 := hY8
    go_wp2_with fail
    refine (mB _ _ hstB.sl).mono ?_
    rintro e w9 ⟨rfl, hb9⟩
    obtain ⟨hc9, hf9⟩ := bcell hb9
    have hz9 := hb9.size
    replace hst0 := hst0.keep hb9
    replace kC := kC.keep hb9
    replace hstA := hstA.keep hb9
    replace kA := kA.keep hb9
    replace hstB := hstB.keep hb9
    replace kB := kB.keep hb9
    replace hstT := hstT.keep hb9
    replace kT := kT.keep hb9
    have hY9 := hZ8.trans (hb9.mono hZ8.size)
    have zkC_9 : w.heap.size < w9.heap.size := by omega
    have zkA_9 : w3.heap.size < w9.heap.size := by omega
    have zkB_9 : w4.heap.size < w9.heap.size := by omega
    have zkT_9 : w5.heap.size < w9.heap.size := by omega
    have hZ9 : Below w.heap.size w w9 := hY9
    go_wp2_with fail
    refine (mT _ _ hstT.sl).mono ?_
    rintro e w10 ⟨rfl, hb10⟩
    obtain ⟨hc10, hf10⟩ := bcell hb10
    have hz10 := hb10.size
    replace hst0 := hst0.keep hb10
    replace kC := kC.keep hb10
    replace hstA := hstA.keep hb10
    replace kA := kA.keep hb10
    replace hstB := hstB.keep hb10
    replace kB := kB.keep hb10
    replace hstT := hstT.keep hb10
    replace kT := kT.keep hb10
    have hY10 := hZ9.trans (hb10.mono hZ9.size)
    have zkC_10 : w.heap.size < w10.heap.size := by omega
    have zkA_10 : w3.heap.size < w10.heap.size := by omega
    have zkB_10 : w4.heap.size < w10.heap.size := by omega
    have zkT_10 : w5.heap.size < w10.heap.size := by omega
    by_cases k1 : k < 0
    · go_wp2_with fail
      have ckC_lt := kC.lt
      have ckC_2 : w10.cell? ⟨w.heap.size, 2, none⟩ = some (.slice A0 ls.length c0) := by rw [kC.cell]; rfl
      have BW := (Below.refl w10.heap.size w10).drew
      refine wp_region_held_drew (S := fun w' => w'.cell? ⟨w.heap.size, 2, none⟩ = some (.slice A0 ls.length c0)) (by kernel_rfl) ?_ (fun hHeldbr => ?_)
      · exact (BW.cell (p := ⟨w.heap.size, 2, none⟩) ckC_lt).trans ckC_2
      refine wpAnyH_take (i := 0) (oi := { dst := some 117, op := Op.move (Operand.tmp 4), type := 3, pos := "law.go:96", after := _, guard := none }) (v := ?vbr0) rfl (by kernel_rfl) (by kernel_rfl) (by kernel_rfl) (fun _ _ _ h => h) (Or.inl ⟨by rfl, ?hybr0⟩) (by assumption) ?restbr0
      case hybr0 => (intro w hSw; (try dsimp only at hSw); go_simp <;> with_reducible rfl)
      try simp only [Act.put, List.setIfInBounds_toArray, List.set_cons_zero, List.set_cons_succ]
      refine wpAnyH_take (i := 1) (oi := { dst := some 118, op := Op.binOp BinOp.lss 3 (Operand.tmp 117) (Operand.const (Value.int IntKind.i64 0)) 3, type := 4, pos := "law.go:96", after := _, guard := none }) (v := ?vbr1) rfl (by kernel_rfl) (by kernel_rfl) (by kernel_rfl) (fun _ _ _ h => h) (Or.inl ⟨by rfl, ?hybr1⟩) (by assumption) ?restbr1
      case hybr1 => (intro w hSw; (try dsimp only at hSw); go_simp <;> with_reducible rfl)
      try simp only [Act.put, List.setIfInBounds_toArray, List.set_cons_zero, List.set_cons_succ]
      refine wpAnyH_take (i := 2) (oi := { dst := some 119, op := Op.move (Operand.tmp 118), type := 4, pos := "law.go:96", after := _, guard := none }) (v := ?vbr2) rfl (by kernel_rfl) (by kernel_rfl) (by kernel_rfl) (fun _ _ _ h => h) (Or.inl ⟨by rfl, ?hybr2⟩) (by assumption) ?restbr2
      case hybr2 => (intro w hSw; (try dsimp only at hSw); go_simp <;> with_reducible rfl)
      try simp only [Act.put, List.setIfInBounds_toArray, List.set_cons_zero, List.set_cons_succ]
      refine wpAnyH_take (i := 3) (oi := { dst := some 120, op := Op.move (Operand.tmp 4), type := 3, pos := "law.go:96", after := _, guard := some (2, false) }) rfl (by kernel_rfl) (by kernel_rfl) (by kernel_rfl) (fun _ _ _ h => h) (Or.inr ⟨by rfl, rfl⟩) (by assumption) ?_
      try simp only [Act.put, List.setIfInBounds_toArray, List.set_cons_zero, List.set_cons_succ]
      refine wpAnyH_take (i := 4) (oi := { dst := some 121, op := Op.fieldAddr 24 (Operand.tmp 5) 2, type := 0, pos := "law.go:96", after := _, guard := some (2, false) }) rfl (by kernel_rfl) (by kernel_rfl) (by kernel_rfl) (fun _ _ _ h => h) (Or.inr ⟨by rfl, rfl⟩) (by assumption) ?_
      try simp only [Act.put, List.setIfInBounds_toArray, List.set_cons_zero, List.set_cons_succ]
      refine wpAnyH_take (i := 5) (oi := { dst := some 122, op := Op.load 22 (Operand.tmp 121), type := 22, pos := "law.go:96", after := _, guard := some (2, false) }) rfl (by kernel_rfl) (by kernel_rfl) (by kernel_rfl) (fun _ _ _ h => h) (Or.inr ⟨by rfl, rfl⟩) (by assumption) ?_
      try simp only [Act.put, List.setIfInBounds_toArray, List.set_cons_zero, List.set_cons_succ]
      refine wpAnyH_take (i := 6) (oi := { dst := some 123, op := Op.call { callee := Callee.builtin Builtin.len, args := #[Operand.tmp 122], argTypes := #[22] }, type := 3, pos := "law.go:96", after := _, guard := some (2, false) }) rfl (by kernel_rfl) (by kernel_rfl) (by kernel_rfl) (fun _ _ _ h => h) (Or.inr ⟨by rfl, rfl⟩) (by assumption) ?_
      try simp only [Act.put, List.setIfInBounds_toArray, List.set_cons_zero, List.set_cons_succ]
      refine wpAnyH_take (i := 7) (oi := { dst := some 124, op := Op.binOp BinOp.geq 3 (Operand.tmp 120) (Operand.tmp 123) 3, type := 4, pos := "law.go:96", after := _, guard := some (2, false) }) rfl (by kernel_rfl) (by kernel_rfl) (by kernel_rfl) (fun _ _ _ h => h) (Or.inr ⟨by rfl, rfl⟩) (by assumption) ?_
      try simp only [Act.put, List.setIfInBounds_toArray, List.set_cons_zero, List.set_cons_succ]
      refine wpAnyH_take (i := 8) (oi := { dst := some 125, op := Op.pick (Operand.tmp 119) (Operand.const (Value.bool true)) (Operand.tmp 124), type := 4, pos := "law.go:96", after := _, guard := none }) (v := ?vbr8) rfl (by kernel_rfl) (by kernel_rfl) (by kernel_rfl) (fun _ _ _ h => h) (Or.inl ⟨by rfl, ?hybr8⟩) (by assumption) ?restbr8
      case hybr8 => (intro w hSw; (try dsimp only at hSw); go_simp <;> with_reducible rfl)
      try simp only [Act.put, List.setIfInBounds_toArray, List.set_cons_zero, List.set_cons_succ]
      refine wpAnyH_take (i := 9) (oi := { dst := some 126, op := Op.move (Operand.tmp 125), type := 4, pos := "law.go:96", after := _, guard := none }) (v := ?vbr9) rfl (by kernel_rfl) (by kernel_rfl) (by kernel_rfl) (fun _ _ _ h => h) (Or.inl ⟨by rfl, ?hybr9⟩) (by assumption) ?restbr9
      case hybr9 => (intro w hSw; (try dsimp only at hSw); go_simp <;> with_reducible rfl)
      try simp only [Act.put, List.setIfInBounds_toArray, List.set_cons_zero, List.set_cons_succ]
      refine wpAnyH_take (i := 10) (oi := { dst := some 127, op := Op.move (Operand.tmp 4), type := 3, pos := "law.go:96", after := _, guard := some (9, false) }) rfl (by kernel_rfl) (by kernel_rfl) (by kernel_rfl) (fun _ _ _ h => h) (Or.inr ⟨by rfl, rfl⟩) (by assumption) ?_
      try simp only [Act.put, List.setIfInBounds_toArray, List.set_cons_zero, List.set_cons_succ]
      refine wpAnyH_take (i := 11) (oi := { dst := some 128, op := Op.fieldAddr 24 (Operand.tmp 14) 2, type := 0, pos := "law.go:96", after := _, guard := some (9, false) }) rfl (by kernel_rfl) (by kernel_rfl) (by kernel_rfl) (fun _ _ _ h => h) (Or.inr ⟨by rfl, rfl⟩) (by assumption) ?_
      try simp only [Act.put, List.setIfInBounds_toArray, List.set_cons_zero, List.set_cons_succ]
      refine wpAnyH_take (i := 12) (oi := { dst := some 129, op := Op.load 22 (Operand.tmp 128), type := 22, pos := "law.go:96", after := _, guard := some (9, false) }) rfl (by kernel_rfl) (by kernel_rfl) (by kernel_rfl) (fun _ _ _ h => h) (Or.inr ⟨by rfl, rfl⟩) (by assumption) ?_
      try simp only [Act.put, List.setIfInBounds_toArray, List.set_cons_zero, List.set_cons_succ]
      refine wpAnyH_take (i := 13) (oi := { dst := some 130, op := Op.call { callee := Callee.builtin Builtin.len, args := #[Operand.tmp 129], argTypes := #[22] }, type := 3, pos := "law.go:96", after := _, guard := some (9, false) }) rfl (by kernel_rfl) (by kernel_rfl) (by kernel_rfl) (fun _ _ _ h => h) (Or.inr ⟨by rfl, rfl⟩) (by assumption) ?_
      try simp only [Act.put, List.setIfInBounds_toArray, List.set_cons_zero, List.set_cons_succ]
      refine wpAnyH_take (i := 14) (oi := { dst := some 131, op := Op.binOp BinOp.lss 3 (Operand.tmp 127) (Operand.tmp 130) 3, type := 4, pos := "law.go:96", after := _, guard := some (9, false) }) rfl (by kernel_rfl) (by kernel_rfl) (by kernel_rfl) (fun _ _ _ h => h) (Or.inr ⟨by rfl, rfl⟩) (by assumption) ?_
      try simp only [Act.put, List.setIfInBounds_toArray, List.set_cons_zero, List.set_cons_succ]
      refine wpAnyH_take (i := 15) (oi := { dst := some 132, op := Op.move (Operand.tmp 131), type := 4, pos := "law.go:96", after := _, guard := some (9, false) }) rfl (by kernel_rfl) (by kernel_rfl) (by kernel_rfl) (fun _ _ _ h => h) (Or.inr ⟨by rfl, rfl⟩) (by assumption) ?_
      try simp only [Act.put, List.setIfInBounds_toArray, List.set_cons_zero, List.set_cons_succ]
      refine wpAnyH_take (i := 16) (oi := { dst := some 133, op := Op.fieldAddr 24 (Operand.tmp 14) 2, type := 0, pos := "law.go:96", after := _, guard := some (15, true) }) rfl (by kernel_rfl) (by kernel_rfl) (by kernel_rfl) (fun _ _ _ h => h) (Or.inr ⟨by rfl, rfl⟩) (by assumption) ?_
      try simp only [Act.put, List.setIfInBounds_toArray, List.set_cons_zero, List.set_cons_succ]
      refine wpAnyH_take (i := 17) (oi := { dst := some 134, op := Op.load 22 (Operand.tmp 133), type := 22, pos := "law.go:96", after := _, guard := some (15, true) }) rfl (by kernel_rfl) (by kernel_rfl) (by kernel_rfl) (fun _ _ _ h => h) (Or.inr ⟨by rfl, rfl⟩) (by assumption) ?_
      try simp only [Act.put, List.setIfInBounds_toArray, List.set_cons_zero, List.set_cons_succ]
      refine wpAnyH_take (i := 18) (oi := { dst := some 135, op := Op.move (Operand.tmp 4), type := 3, pos := "law.go:96", after := _, guard := some (15, true) }) rfl (by kernel_rfl) (by kernel_rfl) (by kernel_rfl) (fun _ _ _ h => h) (Or.inr ⟨by rfl, rfl⟩) (by assumption) ?_
      try simp only [Act.put, List.setIfInBounds_toArray, List.set_cons_zero, List.set_cons_succ]
      refine wpAnyH_take (i := 19) (oi := { dst := some 136, op := Op.indexAddr 22 (Operand.tmp 134) (Operand.tmp 135), type := 0, pos := "law.go:96", after := _, guard := some (15, true) }) rfl (by kernel_rfl) (by kernel_rfl) (by kernel_rfl) (fun _ _ _ h => h) (Or.inr ⟨by rfl, rfl⟩) (by assumption) ?_
      try simp only [Act.put, List.setIfInBounds_toArray, List.set_cons_zero, List.set_cons_succ]
      refine wpAnyH_take (i := 20) (oi := { dst := some 137, op := Op.fieldAddr 40 (Operand.tmp 136) 0, type := 0, pos := "law.go:96", after := _, guard := some (15, true) }) rfl (by kernel_rfl) (by kernel_rfl) (by kernel_rfl) (fun _ _ _ h => h) (Or.inr ⟨by rfl, rfl⟩) (by assumption) ?_
      try simp only [Act.put, List.setIfInBounds_toArray, List.set_cons_zero, List.set_cons_succ]
      refine wpAnyH_take (i := 21) (oi := { dst := some 138, op := Op.load 3 (Operand.tmp 137), type := 3, pos := "law.go:96", after := _, guard := some (15, true) }) rfl (by kernel_rfl) (by kernel_rfl) (by kernel_rfl) (fun _ _ _ h => h) (Or.inr ⟨by rfl, rfl⟩) (by assumption) ?_
      try simp only [Act.put, List.setIfInBounds_toArray, List.set_cons_zero, List.set_cons_succ]
      refine wpAnyH_take (i := 22) (oi := { dst := some 139, op := Op.fieldAddr 24 (Operand.tmp 5) 2, type := 0, pos := "law.go:96", after := _, guard := some (15, true) }) rfl (by kernel_rfl) (by kernel_rfl) (by kernel_rfl) (fun _ _ _ h => h) (Or.inr ⟨by rfl, rfl⟩) (by assumption) ?_
      try simp only [Act.put, List.setIfInBounds_toArray, List.set_cons_zero, List.set_cons_succ]
      refine wpAnyH_take (i := 23) (oi := { dst := some 140, op := Op.load 22 (Operand.tmp 139), type := 22, pos := "law.go:96", after := _, guard := some (15, true) }) rfl (by kernel_rfl) (by kernel_rfl) (by kernel_rfl) (fun _ _ _ h => h) (Or.inr ⟨by rfl, rfl⟩) (by assumption) ?_
      try simp only [Act.put, List.setIfInBounds_toArray, List.set_cons_zero, List.set_cons_succ]
      refine wpAnyH_take (i := 24) (oi := { dst := some 141, op := Op.move (Operand.tmp 4), type := 3, pos := "law.go:96", after := _, guard := some (15, true) }) rfl (by kernel_rfl) (by kernel_rfl) (by kernel_rfl) (fun _ _ _ h => h) (Or.inr ⟨by rfl, rfl⟩) (by assumption) ?_
      try simp only [Act.put, List.setIfInBounds_toArray, List.set_cons_zero, List.set_cons_succ]
      refine wpAnyH_take (i := 25) (oi := { dst := some 142, op := Op.indexAddr 22 (Operand.tmp 140) (Operand.tmp 141), type := 0, pos := "law.go:96", after := _, guard := some (15, true) }) rfl (by kernel_rfl) (by kernel_rfl) (by kernel_rfl) (fun _ _ _ h => h) (Or.inr ⟨by rfl, rfl⟩) (by assumption) ?_
      try simp only [Act.put, List.setIfInBounds_toArray, List.set_cons_zero, List.set_cons_succ]
      refine wpAnyH_take (i := 26) (oi := { dst := some 143, op := Op.fieldAddr 40 (Operand.tmp 142) 0, type := 0, pos := "law.go:96", after := _, guard := some (15, true) }) rfl (by kernel_rfl) (by kernel_rfl) (by kernel_rfl) (fun _ _ _ h => h) (Or.inr ⟨by rfl, rfl⟩) (by assumption) ?_
      try simp only [Act.put, List.setIfInBounds_toArray, List.set_cons_zero, List.set_cons_succ]
      refine wpAnyH_take (i := 27) (oi := { dst := some 144, op := Op.load 3 (Operand.tmp 143), type := 3, pos := "law.go:96", after := _, guard := some (15, true) }) rfl (by kernel_rfl) (by kernel_rfl) (by kernel_rfl) (fun _ _ _ h => h) (Or.inr ⟨by rfl, rfl⟩) (by assumption) ?_
      try simp only [Act.put, List.setIfInBounds_toArray, List.set_cons_zero, List.set_cons_succ]
      refine wpAnyH_take (i := 28) (oi := { dst := some 145, op := Op.binOp BinOp.geq 3 (Operand.tmp 138) (Operand.tmp 144) 3, type := 4, pos := "law.go:96", after := _, guard := some (15, true) }) rfl (by kernel_rfl) (by kernel_rfl) (by kernel_rfl) (fun _ _ _ h => h) (Or.inr ⟨by rfl, rfl⟩) (by assumption) ?_
      try simp only [Act.put, List.setIfInBounds_toArray, List.set_cons_zero, List.set_cons_succ]
      refine wpAnyH_take (i := 29) (oi := { dst := some 146, op := Op.pick (Operand.tmp 132) (Operand.tmp 145) (Operand.const (Value.bool false)), type := 4, pos := "law.go:96", after := _, guard := some (9, false) }) rfl (by kernel_rfl) (by kernel_rfl) (by kernel_rfl) (fun _ _ _ h => h) (Or.inr ⟨by rfl, rfl⟩) (by assumption) ?_
      try simp only [Act.put, List.setIfInBounds_toArray, List.set_cons_zero, List.set_cons_succ]
      refine wpAnyH_take (i := 30) (oi := { dst := some 147, op := Op.move (Operand.tmp 146), type := 4, pos := "law.go:96", after := _, guard := some (9, false) }) rfl (by kernel_rfl) (by kernel_rfl) (by kernel_rfl) (fun _ _ _ h => h) (Or.inr ⟨by rfl, rfl⟩) (by assumption) ?_
      try simp only [Act.put, List.setIfInBounds_toArray, List.set_cons_zero, List.set_cons_succ]
      refine wpAnyH_take (i := 31) (oi := { dst := some 148, op := Op.move (Operand.tmp 4), type := 3, pos := "law.go:96", after := _, guard := some (30, true) }) rfl (by kernel_rfl) (by kernel_rfl) (by kernel_rfl) (fun _ _ _ h => h) (Or.inr ⟨by rfl, rfl⟩) (by assumption) ?_
      try simp only [Act.put, List.setIfInBounds_toArray, List.set_cons_zero, List.set_cons_succ]
      refine wpAnyH_take (i := 32) (oi := { dst := some 149, op := Op.move (Operand.tmp 1), type := 3, pos := "law.go:96", after := _, guard := some (30, true) }) rfl (by kernel_rfl) (by kernel_rfl) (by kernel_rfl) (fun _ _ _ h => h) (Or.inr ⟨by rfl, rfl⟩) (by assumption) ?_
      try simp only [Act.put, List.setIfInBounds_toArray, List.set_cons_zero, List.set_cons_succ]
      refine wpAnyH_take (i := 33) (oi := { dst := some 150, op := Op.binOp BinOp.eql 3 (Operand.tmp 148) (Operand.tmp 149) 3, type := 4, pos := "law.go:96", after := _, guard := some (30, true) }) rfl (by kernel_rfl) (by kernel_rfl) (by kernel_rfl) (fun _ _ _ h => h) (Or.inr ⟨by rfl, rfl⟩) (by assumption) ?_
      try simp only [Act.put, List.setIfInBounds_toArray, List.set_cons_zero, List.set_cons_succ]
      refine wpAnyH_take (i := 34) (oi := { dst := some 151, op := Op.move (Operand.tmp 150), type := 4, pos := "law.go:96", after := _, guard := some (30, true) }) rfl (by kernel_rfl) (by kernel_rfl) (by kernel_rfl) (fun _ _ _ h => h) (Or.inr ⟨by rfl, rfl⟩) (by assumption) ?_
      try simp only [Act.put, List.setIfInBounds_toArray, List.set_cons_zero, List.set_cons_succ]
      refine wpAnyH_take (i := 35) (oi := { dst := some 152, op := Op.fieldAddr 24 (Operand.tmp 14) 2, type := 0, pos := "law.go:96", after := _, guard := some (34, false) }) rfl (by kernel_rfl) (by kernel_rfl) (by kernel_rfl) (fun _ _ _ h => h) (Or.inr ⟨by rfl, rfl⟩) (by assumption) ?_
      try simp only [Act.put, List.setIfInBounds_toArray, List.set_cons_zero, List.set_cons_succ]
      refine wpAnyH_take (i := 36) (oi := { dst := some 153, op := Op.load 22 (Operand.tmp 152), type := 22, pos := "law.go:96", after := _, guard := some (34, false) }) rfl (by kernel_rfl) (by kernel_rfl) (by kernel_rfl) (fun _ _ _ h => h) (Or.inr ⟨by rfl, rfl⟩) (by assumption) ?_
      try simp only [Act.put, List.setIfInBounds_toArray, List.set_cons_zero, List.set_cons_succ]
      refine wpAnyH_take (i := 37) (oi := { dst := some 154, op := Op.move (Operand.tmp 4), type := 3, pos := "law.go:96", after := _, guard := some (34, false) }) rfl (by kernel_rfl) (by kernel_rfl) (by kernel_rfl) (fun _ _ _ h => h) (Or.inr ⟨by rfl, rfl⟩) (by assumption) ?_
      try simp only [Act.put, List.setIfInBounds_toArray, List.set_cons_zero, List.set_cons_succ]
      refine wpAnyH_take (i := 38) (oi := { dst := some 155, op := Op.indexAddr 22 (Operand.tmp 153) (Operand.tmp 154), type := 0, pos := "law.go:96", after := _, guard := some (34, false) }) rfl (by kernel_rfl) (by kernel_rfl) (by kernel_rfl) (fun _ _ _ h => h) (Or.inr ⟨by rfl, rfl⟩) (by assumption) ?_
      try simp only [Act.put, List.setIfInBounds_toArray, List.set_cons_zero, List.set_cons_succ]
      refine wpAnyH_take (i := 39) (oi := { dst := some 156, op := Op.load 40 (Operand.tmp 155), type := 40, pos := "law.go:96", after := _, guard := some (34, false) }) rfl (by kernel_rfl) (by kernel_rfl) (by kernel_rfl) (fun _ _ _ h => h) (Or.inr ⟨by rfl, rfl⟩) (by assumption) ?_
      try simp only [Act.put, List.setIfInBounds_toArray, List.set_cons_zero, List.set_cons_succ]
      refine wpAnyH_take (i := 40) (oi := { dst := some 157, op := Op.fieldAddr 24 (Operand.tmp 5) 2, type := 0, pos := "law.go:96", after := _, guard := some (34, false) }) rfl (by kernel_rfl) (by kernel_rfl) (by kernel_rfl) (fun _ _ _ h => h) (Or.inr ⟨by rfl, rfl⟩) (by assumption) ?_
      try simp only [Act.put, List.setIfInBounds_toArray, List.set_cons_zero, List.set_cons_succ]
      refine wpAnyH_take (i := 41) (oi := { dst := some 158, op := Op.load 22 (Operand.tmp 157), type := 22, pos := "law.go:96", after := _, guard := some (34, false) }) rfl (by kernel_rfl) (by kernel_rfl) (by kernel_rfl) (fun _ _ _ h => h) (Or.inr ⟨by rfl, rfl⟩) (by assumption) ?_
      try simp only [Act.put, List.setIfInBounds_toArray, List.set_cons_zero, List.set_cons_succ]
      refine wpAnyH_take (i := 42) (oi := { dst := some 159, op := Op.move (Operand.tmp 4), type := 3, pos := "law.go:96", after := _, guard := some (34, false) }) rfl (by kernel_rfl) (by kernel_rfl) (by kernel_rfl) (fun _ _ _ h => h) (Or.inr ⟨by rfl, rfl⟩) (by assumption) ?_
      try simp only [Act.put, List.setIfInBounds_toArray, List.set_cons_zero, List.set_cons_succ]
      refine wpAnyH_take (i := 43) (oi := { dst := some 160, op := Op.indexAddr 22 (Operand.tmp 158) (Operand.tmp 159), type := 0, pos := "law.go:96", after := _, guard := some (34, false) }) rfl (by kernel_rfl) (by kernel_rfl) (by kernel_rfl) (fun _ _ _ h => h) (Or.inr ⟨by rfl, rfl⟩) (by assumption) ?_
      try simp only [Act.put, List.setIfInBounds_toArray, List.set_cons_zero, List.set_cons_succ]
      refine wpAnyH_take (i := 44) (oi := { dst := some 161, op := Op.load 40 (Operand.tmp 160), type := 40, pos := "law.go:96", after := _, guard := some (34, false) }) rfl (by kernel_rfl) (by kernel_rfl) (by kernel_rfl) (fun _ _ _ h => h) (Or.inr ⟨by rfl, rfl⟩) (by assumption) ?_
      try simp only [Act.put, List.setIfInBounds_toArray, List.set_cons_zero, List.set_cons_succ]
      refine wpAnyH_take (i := 45) (oi := { dst := some 162, op := Op.binOp BinOp.eql 40 (Operand.tmp 156) (Operand.tmp 161) 40, type := 4, pos := "law.go:96", after := _, guard := some (34, false) }) rfl (by kernel_rfl) (by kernel_rfl) (by kernel_rfl) (fun _ _ _ h => h) (Or.inr ⟨by rfl, rfl⟩) (by assumption) ?_
      try simp only [Act.put, List.setIfInBounds_toArray, List.set_cons_zero, List.set_cons_succ]
      refine wpAnyH_take (i := 46) (oi := { dst := some 163, op := Op.move (Operand.tmp 162), type := 4, pos := "law.go:96", after := _, guard := some (34, false) }) rfl (by kernel_rfl) (by kernel_rfl) (by kernel_rfl) (fun _ _ _ h => h) (Or.inr ⟨by rfl, rfl⟩) (by assumption) ?_
      try simp only [Act.put, List.setIfInBounds_toArray, List.set_cons_zero, List.set_cons_succ]
      refine wpAnyH_take (i := 47) (oi := { dst := some 164, op := Op.fieldAddr 24 (Operand.tmp 12) 2, type := 0, pos := "law.go:96", after := _, guard := some (46, true) }) rfl (by kernel_rfl) (by kernel_rfl) (by kernel_rfl) (fun _ _ _ h => h) (Or.inr ⟨by rfl, rfl⟩) (by assumption) ?_
      try simp only [Act.put, List.setIfInBounds_toArray, List.set_cons_zero, List.set_cons_succ]
      refine wpAnyH_take (i := 48) (oi := { dst := some 165, op := Op.load 22 (Operand.tmp 164), type := 22, pos := "law.go:96", after := _, guard := some (46, true) }) rfl (by kernel_rfl) (by kernel_rfl) (by kernel_rfl) (fun _ _ _ h => h) (Or.inr ⟨by rfl, rfl⟩) (by assumption) ?_
      try simp only [Act.put, List.setIfInBounds_toArray, List.set_cons_zero, List.set_cons_succ]
      refine wpAnyH_take (i := 49) (oi := { dst := some 166, op := Op.move (Operand.tmp 4), type := 3, pos := "law.go:96", after := _, guard := some (46, true) }) rfl (by kernel_rfl) (by kernel_rfl) (by kernel_rfl) (fun _ _ _ h => h) (Or.inr ⟨by rfl, rfl⟩) (by assumption) ?_
      try simp only [Act.put, List.setIfInBounds_toArray, List.set_cons_zero, List.set_cons_succ]
      refine wpAnyH_take (i := 50) (oi := { dst := some 167, op := Op.indexAddr 22 (Operand.tmp 165) (Operand.tmp 166), type := 0, pos := "law.go:96", after := _, guard := some (46, true) }) rfl (by kernel_rfl) (by kernel_rfl) (by kernel_rfl) (fun _ _ _ h => h) (Or.inr ⟨by rfl, rfl⟩) (by assumption) ?_
      try simp only [Act.put, List.setIfInBounds_toArray, List.set_cons_zero, List.set_cons_succ]
      refine wpAnyH_take (i := 51) (oi := { dst := some 168, op := Op.load 40 (Operand.tmp 167), type := 40, pos := "law.go:96", after := _, guard := some (46, true) }) rfl (by kernel_rfl) (by kernel_rfl) (by kernel_rfl) (fun _ _ _ h => h) (Or.inr ⟨by rfl, rfl⟩) (by assumption) ?_
      try simp only [Act.put, List.setIfInBounds_toArray, List.set_cons_zero, List.set_cons_succ]
      refine wpAnyH_take (i := 52) (oi := { dst := some 169, op := Op.fieldAddr 24 (Operand.tmp 5) 2, type := 0, pos := "law.go:96", after := _, guard := some (46, true) }) rfl (by kernel_rfl) (by kernel_rfl) (by kernel_rfl) (fun _ _ _ h => h) (Or.inr ⟨by rfl, rfl⟩) (by assumption) ?_
      try simp only [Act.put, List.setIfInBounds_toArray, List.set_cons_zero, List.set_cons_succ]
      refine wpAnyH_take (i := 53) (oi := { dst := some 170, op := Op.load 22 (Operand.tmp 169), type := 22, pos := "law.go:96", after := _, guard := some (46, true) }) rfl (by kernel_rfl) (by kernel_rfl) (by kernel_rfl) (fun _ _ _ h => h) (Or.inr ⟨by rfl, rfl⟩) (by assumption) ?_
      try simp only [Act.put, List.setIfInBounds_toArray, List.set_cons_zero, List.set_cons_succ]
      refine wpAnyH_take (i := 54) (oi := { dst := some 171, op := Op.move (Operand.tmp 4), type := 3, pos := "law.go:96", after := _, guard := some (46, true) }) rfl (by kernel_rfl) (by kernel_rfl) (by kernel_rfl) (fun _ _ _ h => h) (Or.inr ⟨by rfl, rfl⟩) (by assumption) ?_
      try simp only [Act.put, List.setIfInBounds_toArray, List.set_cons_zero, List.set_cons_succ]
      refine wpAnyH_take (i := 55) (oi := { dst := some 172, op := Op.indexAddr 22 (Operand.tmp 170) (Operand.tmp 171), type := 0, pos := "law.go:96", after := _, guard := some (46, true) }) rfl (by kernel_rfl) (by kernel_rfl) (by kernel_rfl) (fun _ _ _ h => h) (Or.inr ⟨by rfl, rfl⟩) (by assumption) ?_
      try simp only [Act.put, List.setIfInBounds_toArray, List.set_cons_zero, List.set_cons_succ]
      refine wpAnyH_take (i := 56) (oi := { dst := some 173, op := Op.load 40 (Operand.tmp 172), type := 40, pos := "law.go:96", after := _, guard := some (46, true) }) rfl (by kernel_rfl) (by kernel_rfl) (by kernel_rfl) (fun _ _ _ h => h) (Or.inr ⟨by rfl, rfl⟩) (by assumption) ?_
      try simp only [Act.put, List.setIfInBounds_toArray, List.set_cons_zero, List.set_cons_succ]
      refine wpAnyH_take (i := 57) (oi := { dst := some 174, op := Op.binOp BinOp.eql 40 (Operand.tmp 168) (Operand.tmp 173) 40, type := 4, pos := "law.go:96", after := _, guard := some (46, true) }) rfl (by kernel_rfl) (by kernel_rfl) (by kernel_rfl) (fun _ _ _ h => h) (Or.inr ⟨by rfl, rfl⟩) (by assumption) ?_
      try simp only [Act.put, List.setIfInBounds_toArray, List.set_cons_zero, List.set_cons_succ]
      refine wpAnyH_take (i := 58) (oi := { dst := some 175, op := Op.pick (Operand.tmp 163) (Operand.tmp 174) (Operand.const (Value.bool false)), type := 4, pos := "law.go:96", after := _, guard := some (34, false) }) rfl (by kernel_rfl) (by kernel_rfl) (by kernel_rfl) (fun _ _ _ h => h) (Or.inr ⟨by rfl, rfl⟩) (by assumption) ?_
      try simp only [Act.put, List.setIfInBounds_toArray, List.set_cons_zero, List.set_cons_succ]
      refine wpAnyH_take (i := 59) (oi := { dst := some 176, op := Op.pick (Operand.tmp 151) (Operand.const (Value.bool true)) (Operand.tmp 175), type := 4, pos := "law.go:96", after := _, guard := some (30, true) }) rfl (by kernel_rfl) (by kernel_rfl) (by kernel_rfl) (fun _ _ _ h => h) (Or.inr ⟨by rfl, rfl⟩) (by assumption) ?_
      try simp only [Act.put, List.setIfInBounds_toArray, List.set_cons_zero, List.set_cons_succ]
      refine wpAnyH_take (i := 60) (oi := { dst := some 177, op := Op.pick (Operand.tmp 147) (Operand.tmp 176) (Operand.const (Value.bool false)), type := 4, pos := "law.go:96", after := _, guard := some (9, false) }) rfl (by kernel_rfl) (by kernel_rfl) (by kernel_rfl) (fun _ _ _ h => h) (Or.inr ⟨by rfl, rfl⟩) (by assumption) ?_
      try simp only [Act.put, List.setIfInBounds_toArray, List.set_cons_zero, List.set_cons_succ]
      refine wpAnyH_ready (rs := [61]) (by kernel_rfl) (by simp) ?_
      refine AllReadyH.cons (o := { dst := some 178, op := Op.pick (Operand.tmp 126) (Operand.const (Value.bool true)) (Operand.tmp 177), type := 4, pos := "law.go:96", after := _, guard := none }) rfl (fun K hK => ?_) AllReadyH.nil
      go_simp
      skip
      refine hK.out _ _ ?_ (fun hHeldbr61 => ?_)
      · exact (BW.cell (p := ⟨w.heap.size, 2, none⟩) ckC_lt).trans ckC_2
      clear hK K hHeldbr
      try simp only [Act.put, List.setIfInBounds_toArray, List.set_cons_zero, List.set_cons_succ]
      refine wpAnyH_ready (rs := [62]) (by kernel_rfl) (by simp) ?_
      refine AllReadyH.cons (o := { dst := some 10, op := Op.assign (Operand.tmp 178), type := 4, pos := "law.go:96", after := _, guard := none }) rfl (fun K hK => ?_) AllReadyH.nil
      go_simp
      skip
      refine hK.out _ _ ?_ (fun hHeldbr62 => ?_)
      · exact (BW.cell (p := ⟨w.heap.size, 2, none⟩) ckC_lt).trans ckC_2
      clear hK K hHeldbr61
      try simp only [Act.put, List.setIfInBounds_toArray, List.set_cons_zero, List.set_cons_succ]
      refine wpAnyH_done (by kernel_rfl) ?_ _
      go_wp2
      go_ret
      exact ⟨rfl, hY10.drew⟩
    by_cases k2 : (ls.length : Int) ≤ k
    · go_wp2_with fail
      have ckC_lt := kC.lt
      have ckC_2 : w10.cell? ⟨w.heap.size, 2, none⟩ = some (.slice A0 ls.length c0) := by rw [kC.cell]; rfl
      have BW := (Below.refl w10.heap.size w10).drew
      refine wp_region_held_drew (S := fun w' => w'.cell? ⟨w.heap.size, 2, none⟩ = some (.slice A0 ls.length c0)) (by kernel_rfl) ?_ (fun hHeldcr => ?_)
      · exact (BW.cell (p := ⟨w.heap.size, 2, none⟩) ckC_lt).trans ckC_2
      refine wpAnyH_take (i := 0) (oi := { dst := some 117, op := Op.move (Operand.tmp 4), type := 3, pos := "law.go:96", after := _, guard := none }) (v := ?vcr0) rfl (by kernel_rfl) (by kernel_rfl) (by kernel_rfl) (fun _ _ _ h => h) (Or.inl ⟨by rfl, ?hycr0⟩) (by assumption) ?restcr0
      case hycr0 => (intro w hSw; (try dsimp only at hSw); go_simp <;> with_reducible rfl)
      try simp only [Act.put, List.setIfInBounds_toArray, List.set_cons_zero, List.set_cons_succ]
      refine wpAnyH_take (i := 1) (oi := { dst := some 118, op := Op.binOp BinOp.lss 3 (Operand.tmp 117) (Operand.const (Value.int IntKind.i64 0)) 3, type := 4, pos := "law.go:96", after := _, guard := none }) (v := .bool false) rfl (by kernel_rfl) (by kernel_rfl) (by kernel_rfl) (fun _ _ _ h => h) (Or.inl ⟨by rfl, ?hycr1⟩) (by assumption) ?restcr1
      case hycr1 => (intro w hSw; (try dsimp only at hSw); go_simp <;> first | done | with_reducible rfl | (simp; done) | (simp; omega))
      try simp only [Act.put, List.setIfInBounds_toArray, List.set_cons_zero, List.set_cons_succ]
      refine wpAnyH_take (i := 2) (oi := { dst := some 119, op := Op.move (Operand.tmp 118), type := 4, pos := "law.go:96", after := _, guard := none }) (v := ?vcr2) rfl (by kernel_rfl) (by kernel_rfl) (by kernel_rfl) (fun _ _ _ h => h) (Or.inl ⟨by rfl, ?hycr2⟩) (by assumption) ?restcr2
      case hycr2 => (intro w hSw; (try dsimp only at hSw); go_simp <;> with_reducible rfl)
      try simp only [Act.put, List.setIfInBounds_toArray, List.set_cons_zero, List.set_cons_succ]
      refine wpAnyH_take (i := 3) (oi := { dst := some 120, op := Op.move (Operand.tmp 4), type := 3, pos := "law.go:96", after := _, guard := some (2, false) }) (v := ?vcr3) rfl (by kernel_rfl) (by kernel_rfl) (by kernel_rfl) (fun _ _ _ h => h) (Or.inl ⟨by rfl, ?hycr3⟩) (by assumption) ?restcr3
      case hycr3 => (intro w hSw; (try dsimp only at hSw); go_simp <;> with_reducible rfl)
      try simp only [Act.put, List.setIfInBounds_toArray, List.set_cons_zero, List.set_cons_succ]
      refine wpAnyH_take (i := 4) (oi := { dst := some 121, op := Op.fieldAddr 24 (Operand.tmp 5) 2, type := 0, pos := "law.go:96", after := _, guard := some (2, false) }) (v := ?vcr4) rfl (by kernel_rfl) (by kernel_rfl) (by kernel_rfl) (fun _ _ _ h => h) (Or.inl ⟨by rfl, ?hycr4⟩) (by assumption) ?restcr4
      case hycr4 => (intro w hSw; (try dsimp only at hSw); go_simp <;> with_reducible rfl)
      try simp only [Act.put, List.setIfInBounds_toArray, List.set_cons_zero, List.set_cons_succ]
      refine wpAnyH_take (i := 5) (oi := { dst := some 122, op := Op.load 22 (Operand.tmp 121), type := 22, pos := "law.go:96", after := _, guard := some (2, false) }) (v := ?vcr5) rfl (by kernel_rfl) (by kernel_rfl) (by kernel_rfl) (fun _ _ _ h => h) (Or.inl ⟨by rfl, ?hycr5⟩) (by assumption) ?restcr5
      case hycr5 => (intro w hSw; (try dsimp only at hSw); go_simp <;> with_reducible rfl)
      try simp only [Act.put, List.setIfInBounds_toArray, List.set_cons_zero, List.set_cons_succ]
      refine wpAnyH_take (i := 6) (oi := { dst := some 123, op := Op.call { callee := Callee.builtin Builtin.len, args := #[Operand.tmp 122], argTypes := #[22] }, type := 3, pos := "law.go:96", after := _, guard := some (2, false) }) (v := ?vcr6) rfl (by kernel_rfl) (by kernel_rfl) (by kernel_rfl) (fun _ _ _ h => h) (Or.inl ⟨by rfl, ?hycr6⟩) (by assumption) ?restcr6
      case hycr6 => (intro w hSw; (try dsimp only at hSw); go_simp <;> with_reducible rfl)
      try simp only [Act.put, List.setIfInBounds_toArray, List.set_cons_zero, List.set_cons_succ]
      refine wpAnyH_take (i := 7) (oi := { dst := some 124, op := Op.binOp BinOp.geq 3 (Operand.tmp 120) (Operand.tmp 123) 3, type := 4, pos := "law.go:96", after := _, guard := some (2, false) }) (v := .bool true) rfl (by kernel_rfl) (by kernel_rfl) (by kernel_rfl) (fun _ _ _ h => h) (Or.inl ⟨by rfl, ?hycr7⟩) (by assumption) ?restcr7
      case hycr7 => (intro w hSw; (try dsimp only at hSw); go_simp <;> first | done | with_reducible rfl | (simp; done) | (simp; omega))
      try simp only [Act.put, List.setIfInBounds_toArray, List.set_cons_zero, List.set_cons_succ]
      refine wpAnyH_take (i := 8) (oi := { dst := some 125, op := Op.pick (Operand.tmp 119) (Operand.const (Value.bool true)) (Operand.tmp 124), type := 4, pos := "law.go:96", after := _, guard := none }) (v := ?vcr8) rfl (by kernel_rfl) (by kernel_rfl) (by kernel_rfl) (fun _ _ _ h => h) (Or.inl ⟨by rfl, ?hycr8⟩) (by assumption) ?restcr8
      case hycr8 => (intro w hSw; (try dsimp only at hSw); go_simp <;> with_reducible rfl)
      try simp only [Act.put, List.setIfInBounds_toArray, List.set_cons_zero, List.set_cons_succ]
      refine wpAnyH_take (i := 9) (oi := { dst := some 126, op := Op.move (Operand.tmp 125), type := 4, pos := "law.go:96", after := _, guard := none }) (v := ?vcr9) rfl (by kernel_rfl) (by kernel_rfl) (by kernel_rfl) (fun _ _ _ h => h) (Or.inl ⟨by rfl, ?hycr9⟩) (by assumption) ?restcr9
      case hycr9 => (intro w hSw; (try dsimp only at hSw); go_simp <;> with_reducible rfl)
      try simp only [Act.put, List.setIfInBounds_toArray, List.set_cons_zero, List.set_cons_succ]
      refine wpAnyH_take (i := 10) (oi := { dst := some 127, op := Op.move (Operand.tmp 4), type := 3, pos := "law.go:96", after := _, guard := some (9, false) }) rfl (by kernel_rfl) (by kernel_rfl) (by kernel_rfl) (fun _ _ _ h => h) (Or.inr ⟨by rfl, rfl⟩) (by assumption) ?_
      try simp only [Act.put, List.setIfInBounds_toArray, List.set_cons_zero, List.set_cons_succ]
      refine wpAnyH_take (i := 11) (oi := { dst := some 128, op := Op.fieldAddr 24 (Operand.tmp 14) 2, type := 0, pos := "law.go:96", after := _, guard := some (9, false) }) rfl (by kernel_rfl) (by kernel_rfl) (by kernel_rfl) (fun _ _ _ h => h) (Or.inr ⟨by rfl, rfl⟩) (by assumption) ?_
      try simp only [Act.put, List.setIfInBounds_toArray, List.set_cons_zero, List.set_cons_succ]
      refine wpAnyH_take (i := 12) (oi := { dst := some 129, op := Op.load 22 (Operand.tmp 128), type := 22, pos := "law.go:96", after := _, guard := some (9, false) }) rfl (by kernel_rfl) (by kernel_rfl) (by kernel_rfl) (fun _ _ _ h => h) (Or.inr ⟨by rfl, rfl⟩) (by assumption) ?_
      try simp only [Act.put, List.setIfInBounds_toArray, List.set_cons_zero, List.set_cons_succ]
      refine wpAnyH_take (i := 13) (oi := { dst := some 130, op := Op.call { callee := Callee.builtin Builtin.len, args := #[Operand.tmp 129], argTypes := #[22] }, type := 3, pos := "law.go:96", after := _, guard := some (9, false) }) rfl (by kernel_rfl) (by kernel_rfl) (by kernel_rfl) (fun _ _ _ h => h) (Or.inr ⟨by rfl, rfl⟩) (by assumption) ?_
      try simp only [Act.put, List.setIfInBounds_toArray, List.set_cons_zero, List.set_cons_succ]
      refine wpAnyH_take (i := 14) (oi := { dst := some 131, op := Op.binOp BinOp.lss 3 (Operand.tmp 127) (Operand.tmp 130) 3, type := 4, pos := "law.go:96", after := _, guard := some (9, false) }) rfl (by kernel_rfl) (by kernel_rfl) (by kernel_rfl) (fun _ _ _ h => h) (Or.inr ⟨by rfl, rfl⟩) (by assumption) ?_
      try simp only [Act.put, List.setIfInBounds_toArray, List.set_cons_zero, List.set_cons_succ]
      refine wpAnyH_take (i := 15) (oi := { dst := some 132, op := Op.move (Operand.tmp 131), type := 4, pos := "law.go:96", after := _, guard := some (9, false) }) rfl (by kernel_rfl) (by kernel_rfl) (by kernel_rfl) (fun _ _ _ h => h) (Or.inr ⟨by rfl, rfl⟩) (by assumption) ?_
      try simp only [Act.put, List.setIfInBounds_toArray, List.set_cons_zero, List.set_cons_succ]
      refine wpAnyH_take (i := 16) (oi := { dst := some 133, op := Op.fieldAddr 24 (Operand.tmp 14) 2, type := 0, pos := "law.go:96", after := _, guard := some (15, true) }) rfl (by kernel_rfl) (by kernel_rfl) (by kernel_rfl) (fun _ _ _ h => h) (Or.inr ⟨by rfl, rfl⟩) (by assumption) ?_
      try simp only [Act.put, List.setIfInBounds_toArray, List.set_cons_zero, List.set_cons_succ]
      refine wpAnyH_take (i := 17) (oi := { dst := some 134, op := Op.load 22 (Operand.tmp 133), type := 22, pos := "law.go:96", after := _, guard := some (15, true) }) rfl (by kernel_rfl) (by kernel_rfl) (by kernel_rfl) (fun _ _ _ h => h) (Or.inr ⟨by rfl, rfl⟩) (by assumption) ?_
      try simp only [Act.put, List.setIfInBounds_toArray, List.set_cons_zero, List.set_cons_succ]
      refine wpAnyH_take (i := 18) (oi := { dst := some 135, op := Op.move (Operand.tmp 4), type := 3, pos := "law.go:96", after := _, guard := some (15, true) }) rfl (by kernel_rfl) (by kernel_rfl) (by kernel_rfl) (fun _ _ _ h => h) (Or.inr ⟨by rfl, rfl⟩) (by assumption) ?_
      try simp only [Act.put, List.setIfInBounds_toArray, List.set_cons_zero, List.set_cons_succ]
      refine wpAnyH_take (i := 19) (oi := { dst := some 136, op := Op.indexAddr 22 (Operand.tmp 134) (Operand.tmp 135), type := 0, pos := "law.go:96", after := _, guard := some (15, true) }) rfl (by kernel_rfl) (by kernel_rfl) (by kernel_rfl) (fun _ _ _ h => h) (Or.inr ⟨by rfl, rfl⟩) (by assumption) ?_
      try simp only [Act.put, List.setIfInBounds_toArray, List.set_cons_zero, List.set_cons_succ]
      refine wpAnyH_take (i := 20) (oi := { dst := some 137, op := Op.fieldAddr 40 (Operand.tmp 136) 0, type := 0, pos := "law.go:96", after := _, guard := some (15, true) }) rfl (by kernel_rfl) (by kernel_rfl) (by kernel_rfl) (fun _ _ _ h => h) (Or.inr ⟨by rfl, rfl⟩) (by assumption) ?_
      try simp only [Act.put, List.setIfInBounds_toArray, List.set_cons_zero, List.set_cons_succ]
      refine wpAnyH_take (i := 21) (oi := { dst := some 138, op := Op.load 3 (Operand.tmp 137), type := 3, pos := "law.go:96", after := _, guard := some (15, true) }) rfl (by kernel_rfl) (by kernel_rfl) (by kernel_rfl) (fun _ _ _ h => h) (Or.inr ⟨by rfl, rfl⟩) (by assumption) ?_
      try simp only [Act.put, List.setIfInBounds_toArray, List.set_cons_zero, List.set_cons_succ]
      refine wpAnyH_take (i := 22) (oi := { dst := some 139, op := Op.fieldAddr 24 (Operand.tmp 5) 2, type := 0, pos := "law.go:96", after := _, guard := some (15, true) }) rfl (by kernel_rfl) (by kernel_rfl) (by kernel_rfl) (fun _ _ _ h => h) (Or.inr ⟨by rfl, rfl⟩) (by assumption) ?_
      try simp only [Act.put, List.setIfInBounds_toArray, List.set_cons_zero, List.set_cons_succ]
      refine wpAnyH_take (i := 23) (oi := { dst := some 140, op := Op.load 22 (Operand.tmp 139), type := 22, pos := "law.go:96", after := _, guard := some (15, true) }) rfl (by kernel_rfl) (by kernel_rfl) (by kernel_rfl) (fun _ _ _ h => h) (Or.inr ⟨by rfl, rfl⟩) (by assumption) ?_
      try simp only [Act.put, List.setIfInBounds_toArray, List.set_cons_zero, List.set_cons_succ]
      refine wpAnyH_take (i := 24) (oi := { dst := some 141, op := Op.move (Operand.tmp 4), type := 3, pos := "law.go:96", after := _, guard := some (15, true) }) rfl (by kernel_rfl) (by kernel_rfl) (by kernel_rfl) (fun _ _ _ h => h) (Or.inr ⟨by rfl, rfl⟩) (by assumption) ?_
      try simp only [Act.put, List.setIfInBounds_toArray, List.set_cons_zero, List.set_cons_succ]
      refine wpAnyH_take (i := 25) (oi := { dst := some 142, op := Op.indexAddr 22 (Operand.tmp 140) (Operand.tmp 141), type := 0, pos := "law.go:96", after := _, guard := some (15, true) }) rfl (by kernel_rfl) (by kernel_rfl) (by kernel_rfl) (fun _ _ _ h => h) (Or.inr ⟨by rfl, rfl⟩) (by assumption) ?_
      try simp only [Act.put, List.setIfInBounds_toArray, List.set_cons_zero, List.set_cons_succ]
      refine wpAnyH_take (i := 26) (oi := { dst := some 143, op := Op.fieldAddr 40 (Operand.tmp 142) 0, type := 0, pos := "law.go:96", after := _, guard := some (15, true) }) rfl (by kernel_rfl) (by kernel_rfl) (by kernel_rfl) (fun _ _ _ h => h) (Or.inr ⟨by rfl, rfl⟩) (by assumption) ?_
      try simp only [Act.put, List.setIfInBounds_toArray, List.set_cons_zero, List.set_cons_succ]
      refine wpAnyH_take (i := 27) (oi := { dst := some 144, op := Op.load 3 (Operand.tmp 143), type := 3, pos := "law.go:96", after := _, guard := some (15, true) }) rfl (by kernel_rfl) (by kernel_rfl) (by kernel_rfl) (fun _ _ _ h => h) (Or.inr ⟨by rfl, rfl⟩) (by assumption) ?_
      try simp only [Act.put, List.setIfInBounds_toArray, List.set_cons_zero, List.set_cons_succ]
      refine wpAnyH_take (i := 28) (oi := { dst := some 145, op := Op.binOp BinOp.geq 3 (Operand.tmp 138) (Operand.tmp 144) 3, type := 4, pos := "law.go:96", after := _, guard := some (15, true) }) rfl (by kernel_rfl) (by kernel_rfl) (by kernel_rfl) (fun _ _ _ h => h) (Or.inr ⟨by rfl, rfl⟩) (by assumption) ?_
      try simp only [Act.put, List.setIfInBounds_toArray, List.set_cons_zero, List.set_cons_succ]
      refine wpAnyH_take (i := 29) (oi := { dst := some 146, op := Op.pick (Operand.tmp 132) (Operand.tmp 145) (Operand.const (Value.bool false)), type := 4, pos := "law.go:96", after := _, guard := some (9, false) }) rfl (by kernel_rfl) (by kernel_rfl) (by kernel_rfl) (fun _ _ _ h => h) (Or.inr ⟨by rfl, rfl⟩) (by assumption) ?_
      try simp only [Act.put, List.setIfInBounds_toArray, List.set_cons_zero, List.set_cons_succ]
      refine wpAnyH_take (i := 30) (oi := { dst := some 147, op := Op.move (Operand.tmp 146), type := 4, pos := "law.go:96", after := _, guard := some (9, false) }) rfl (by kernel_rfl) (by kernel_rfl) (by kernel_rfl) (fun _ _ _ h => h) (Or.inr ⟨by rfl, rfl⟩) (by assumption) ?_
      try simp only [Act.put, List.setIfInBounds_toArray, List.set_cons_zero, List.set_cons_succ]
      refine wpAnyH_take (i := 31) (oi := { dst := some 148, op := Op.move (Operand.tmp 4), type := 3, pos := "law.go:96", after := _, guard := some (30, true) }) rfl (by kernel_rfl) (by kernel_rfl) (by kernel_rfl) (fun _ _ _ h => h) (Or.inr ⟨by rfl, rfl⟩) (by assumption) ?_
      try simp only [Act.put, List.setIfInBounds_toArray, List.set_cons_zero, List.set_cons_succ]
      refine wpAnyH_take (i := 32) (oi := { dst := some 149, op := Op.move (Operand.tmp 1), type := 3, pos := "law.go:96", after := _, guard := some (30, true) }) rfl (by kernel_rfl) (by kernel_rfl) (by kernel_rfl) (fun _ _ _ h => h) (Or.inr ⟨by rfl, rfl⟩) (by assumption) ?_
      try simp only [Act.put, List.setIfInBounds_toArray, List.set_cons_zero, List.set_cons_succ]
      refine wpAnyH_take (i := 33) (oi := { dst := some 150, op := Op.binOp BinOp.eql 3 (Operand.tmp 148) (Operand.tmp 149) 3, type := 4, pos := "law.go:96", after := _, guard := some (30, true) }) rfl (by kernel_rfl) (by kernel_rfl) (by kernel_rfl) (fun _ _ _ h => h) (Or.inr ⟨by rfl, rfl⟩) (by assumption) ?_
      try simp only [Act.put, List.setIfInBounds_toArray, List.set_cons_zero, List.set_cons_succ]
      refine wpAnyH_take (i := 34) (oi := { dst := some 151, op := Op.move (Operand.tmp 150), type := 4, pos := "law.go:96", after := _, guard := some (30, true) }) rfl (by kernel_rfl) (by kernel_rfl) (by kernel_rfl) (fun _ _ _ h => h) (Or.inr ⟨by rfl, rfl⟩) (by assumption) ?_
      try simp only [Act.put, List.setIfInBounds_toArray, List.set_cons_zero, List.set_cons_succ]
      refine wpAnyH_take (i := 35) (oi := { dst := some 152, op := Op.fieldAddr 24 (Operand.tmp 14) 2, type := 0, pos := "law.go:96", after := _, guard := some (34, false) }) rfl (by kernel_rfl) (by kernel_rfl) (by kernel_rfl) (fun _ _ _ h => h) (Or.inr ⟨by rfl, rfl⟩) (by assumption) ?_
      try simp only [Act.put, List.setIfInBounds_toArray, List.set_cons_zero, List.set_cons_succ]
      refine wpAnyH_take (i := 36) (oi := { dst := some 153, op := Op.load 22 (Operand.tmp 152), type := 22, pos := "law.go:96", after := _, guard := some (34, false) }) rfl (by kernel_rfl) (by kernel_rfl) (by kernel_rfl) (fun _ _ _ h => h) (Or.inr ⟨by rfl, rfl⟩) (by assumption) ?_
      try simp only [Act.put, List.setIfInBounds_toArray, List.set_cons_zero, List.set_cons_succ]
      refine wpAnyH_take (i := 37) (oi := { dst := some 154, op := Op.move (Operand.tmp 4), type := 3, pos := "law.go:96", after := _, guard := some (34, false) }) rfl (by kernel_rfl) (by kernel_rfl) (by kernel_rfl) (fun _ _ _ h => h) (Or.inr ⟨by rfl, rfl⟩) (by assumption) ?_
      try simp only [Act.put, List.setIfInBounds_toArray, List.set_cons_zero, List.set_cons_succ]
      refine wpAnyH_take (i := 38) (oi := { dst := some 155, op := Op.indexAddr 22 (Operand.tmp 153) (Operand.tmp 154), type := 0, pos := "law.go:96", after := _, guard := some (34, false) }) rfl (by kernel_rfl) (by kernel_rfl) (by kernel_rfl) (fun _ _ _ h => h) (Or.inr ⟨by rfl, rfl⟩) (by assumption) ?_
      try simp only [Act.put, List.setIfInBounds_toArray, List.set_cons_zero, List.set_cons_succ]
      refine wpAnyH_take (i := 39) (oi := { dst := some 156, op := Op.load 40 (Operand.tmp 155), type := 40, pos := "law.go:96", after := _, guard := some (34, false) }) rfl (by kernel_rfl) (by kernel_rfl) (by kernel_rfl) (fun _ _ _ h => h) (Or.inr ⟨by rfl, rfl⟩) (by assumption) ?_
      try simp only [Act.put, List.setIfInBounds_toArray, List.set_cons_zero, List.set_cons_succ]
      refine wpAnyH_take (i := 40) (oi := { dst := some 157, op := Op.fieldAddr 24 (Operand.tmp 5) 2, type := 0, pos := "law.go:96", after := _, guard := some (34, false) }) rfl (by kernel_rfl) (by kernel_rfl) (by kernel_rfl) (fun _ _ _ h => h) (Or.inr ⟨by rfl, rfl⟩) (by assumption) ?_
      try simp only [Act.put, List.setIfInBounds_toArray, List.set_cons_zero, List.set_cons_succ]
      refine wpAnyH_take (i := 41) (oi := { dst := some 158, op := Op.load 22 (Operand.tmp 157), type := 22, pos := "law.go:96", after := _, guard := some (34, false) }) rfl (by kernel_rfl) (by kernel_rfl) (by kernel_rfl) (fun _ _ _ h => h) (Or.inr ⟨by rfl, rfl⟩) (by assumption) ?_
      try simp only [Act.put, List.setIfInBounds_toArray, List.set_cons_zero, List.set_cons_succ]
      refine wpAnyH_take (i := 42) (oi := { dst := some 159, op := Op.move (Operand.tmp 4), type := 3, pos := "law.go:96", after := _, guard := some (34, false) }) rfl (by kernel_rfl) (by kernel_rfl) (by kernel_rfl) (fun _ _ _ h => h) (Or.inr ⟨by rfl, rfl⟩) (by assumption) ?_
      try simp only [Act.put, List.setIfInBounds_toArray, List.set_cons_zero, List.set_cons_succ]
      refine wpAnyH_take (i := 43) (oi := { dst := some 160, op := Op.indexAddr 22 (Operand.tmp 158) (Operand.tmp 159), type := 0, pos := "law.go:96", after := _, guard := some (34, false) }) rfl (by kernel_rfl) (by kernel_rfl) (by kernel_rfl) (fun _ _ _ h => h) (Or.inr ⟨by rfl, rfl⟩) (by assumption) ?_
      try simp only [Act.put, List.setIfInBounds_toArray, List.set_cons_zero, List.set_cons_succ]
      refine wpAnyH_take (i := 44) (oi := { dst := some 161, op := Op.load 40 (Operand.tmp 160), type := 40, pos := "law.go:96", after := _, guard := some (34, false) }) rfl (by kernel_rfl) (by kernel_rfl) (by kernel_rfl) (fun _ _ _ h => h) (Or.inr ⟨by rfl, rfl⟩) (by assumption) ?_
      try simp only [Act.put, List.setIfInBounds_toArray, List.set_cons_zero, List.set_cons_succ]
      refine wpAnyH_take (i := 45) (oi := { dst := some 162, op := Op.binOp BinOp.eql 40 (Operand.tmp 156) (Operand.tmp 161) 40, type := 4, pos := "law.go:96", after := _, guard := some (34, false) }) rfl (by kernel_rfl) (by kernel_rfl) (by kernel_rfl) (fun _ _ _ h => h) (Or.inr ⟨by rfl, rfl⟩) (by assumption) ?_
      try simp only [Act.put, List.setIfInBounds_toArray, List.set_cons_zero, List.set_cons_succ]
      refine wpAnyH_take (i := 46) (oi := { dst := some 163, op := Op.move (Operand.tmp 162), type := 4, pos := "law.go:96", after := _, guard := some (34, false) }) rfl (by kernel_rfl) (by kernel_rfl) (by kernel_rfl) (fun _ _ _ h => h) (Or.inr ⟨by rfl, rfl⟩) (by assumption) ?_
      try simp only [Act.put, List.setIfInBounds_toArray, List.set_cons_zero, List.set_cons_succ]
      refine wpAnyH_take (i := 47) (oi := { dst := some 164, op := Op.fieldAddr 24 (Operand.tmp 12) 2, type := 0, pos := "law.go:96", after := _, guard := some (46, true) }) rfl (by kernel_rfl) (by kernel_rfl) (by kernel_rfl) (fun _ _ _ h => h) (Or.inr ⟨by rfl, rfl⟩) (by assumption) ?_
      try simp only [Act.put, List.setIfInBounds_toArray, List.set_cons_zero, List.set_cons_succ]
      refine wpAnyH_take (i := 48) (oi := { dst := some 165, op := Op.load 22 (Operand.tmp 164), type := 22, pos := "law.go:96", after := _, guard := some (46, true) }) rfl (by kernel_rfl) (by kernel_rfl) (by kernel_rfl) (fun _ _ _ h => h) (Or.inr ⟨by rfl, rfl⟩) (by assumption) ?_
      try simp only [Act.put, List.setIfInBounds_toArray, List.set_cons_zero, List.set_cons_succ]
      refine wpAnyH_take (i := 49) (oi := { dst := some 166, op := Op.move (Operand.tmp 4), type := 3, pos := "law.go:96", after := _, guard := some (46, true) }) rfl (by kernel_rfl) (by kernel_rfl) (by kernel_rfl) (fun _ _ _ h => h) (Or.inr ⟨by rfl, rfl⟩) (by assumption) ?_
      try simp only [Act.put, List.setIfInBounds_toArray, List.set_cons_zero, List.set_cons_succ]
      refine wpAnyH_take (i := 50) (oi := { dst := some 167, op := Op.indexAddr 22 (Operand.tmp 165) (Operand.tmp 166), type := 0, pos := "law.go:96", after := _, guard := some (46, true) }) rfl (by kernel_rfl) (by kernel_rfl) (by kernel_rfl) (fun _ _ _ h => h) (Or.inr ⟨by rfl, rfl⟩) (by assumption) ?_
      try simp only [Act.put, List.setIfInBounds_toArray, List.set_cons_zero, List.set_cons_succ]
      refine wpAnyH_take (i := 51) (oi := { dst := some 168, op := Op.load 40 (Operand.tmp 167), type := 40, pos := "law.go:96", after := _, guard := some (46, true) }) rfl (by kernel_rfl) (by kernel_rfl) (by kernel_rfl) (fun _ _ _ h => h) (Or.inr ⟨by rfl, rfl⟩) (by assumption) ?_
      try simp only [Act.put, List.setIfInBounds_toArray, List.set_cons_zero, List.set_cons_succ]
      refine wpAnyH_take (i := 52) (oi := { dst := some 169, op := Op.fieldAddr 24 (Operand.tmp 5) 2, type := 0, pos := "law.go:96", after := _, guard := some (46, true) }) rfl (by kernel_rfl) (by kernel_rfl) (by kernel_rfl) (fun _ _ _ h => h) (Or.inr ⟨by rfl, rfl⟩) (by assumption) ?_
      try simp only [Act.put, List.setIfInBounds_toArray, List.set_cons_zero, List.set_cons_succ]
      refine wpAnyH_take (i := 53) (oi := { dst := some 170, op := Op.load 22 (Operand.tmp 169), type := 22, pos := "law.go:96", after := _, guard := some (46, true) }) rfl (by kernel_rfl) (by kernel_rfl) (by kernel_rfl) (fun _ _ _ h => h) (Or.inr ⟨by rfl, rfl⟩) (by assumption) ?_
      try simp only [Act.put, List.setIfInBounds_toArray, List.set_cons_zero, List.set_cons_succ]
      refine wpAnyH_take (i := 54) (oi := { dst := some 171, op := Op.move (Operand.tmp 4), type := 3, pos := "law.go:96", after := _, guard := some (46, true) }) rfl (by kernel_rfl) (by kernel_rfl) (by kernel_rfl) (fun _ _ _ h => h) (Or.inr ⟨by rfl, rfl⟩) (by assumption) ?_
      try simp only [Act.put, List.setIfInBounds_toArray, List.set_cons_zero, List.set_cons_succ]
      refine wpAnyH_take (i := 55) (oi := { dst := some 172, op := Op.indexAddr 22 (Operand.tmp 170) (Operand.tmp 171), type := 0, pos := "law.go:96", after := _, guard := some (46, true) }) rfl (by kernel_rfl) (by kernel_rfl) (by kernel_rfl) (fun _ _ _ h => h) (Or.inr ⟨by rfl, rfl⟩) (by assumption) ?_
      try simp only [Act.put, List.setIfInBounds_toArray, List.set_cons_zero, List.set_cons_succ]
      refine wpAnyH_take (i := 56) (oi := { dst := some 173, op := Op.load 40 (Operand.tmp 172), type := 40, pos := "law.go:96", after := _, guard := some (46, true) }) rfl (by kernel_rfl) (by kernel_rfl) (by kernel_rfl) (fun _ _ _ h => h) (Or.inr ⟨by rfl, rfl⟩) (by assumption) ?_
      try simp only [Act.put, List.setIfInBounds_toArray, List.set_cons_zero, List.set_cons_succ]
      refine wpAnyH_take (i := 57) (oi := { dst := some 174, op := Op.binOp BinOp.eql 40 (Operand.tmp 168) (Operand.tmp 173) 40, type := 4, pos := "law.go:96", after := _, guard := some (46, true) }) rfl (by kernel_rfl) (by kernel_rfl) (by kernel_rfl) (fun _ _ _ h => h) (Or.inr ⟨by rfl, rfl⟩) (by assumption) ?_
      try simp only [Act.put, List.setIfInBounds_toArray, List.set_cons_zero, List.set_cons_succ]
      refine wpAnyH_take (i := 58) (oi := { dst := some 175, op := Op.pick (Operand.tmp 163) (Operand.tmp 174) (Operand.const (Value.bool false)), type := 4, pos := "law.go:96", after := _, guard := some (34, false) }) rfl (by kernel_rfl) (by kernel_rfl) (by kernel_rfl) (fun _ _ _ h => h) (Or.inr ⟨by rfl, rfl⟩) (by assumption) ?_
      try simp only [Act.put, List.setIfInBounds_toArray, List.set_cons_zero, List.set_cons_succ]
      refine wpAnyH_take (i := 59) (oi := { dst := some 176, op := Op.pick (Operand.tmp 151) (Operand.const (Value.bool true)) (Operand.tmp 175), type := 4, pos := "law.go:96", after := _, guard := some (30, true) }) rfl (by kernel_rfl) (by kernel_rfl) (by kernel_rfl) (fun _ _ _ h => h) (Or.inr ⟨by rfl, rfl⟩) (by assumption) ?_
      try simp only [Act.put, List.setIfInBounds_toArray, List.set_cons_zero, List.set_cons_succ]
      refine wpAnyH_take (i := 60) (oi := { dst := some 177, op := Op.pick (Operand.tmp 147) (Operand.tmp 176) (Operand.const (Value.bool false)), type := 4, pos := "law.go:96", after := _, guard := some (9, false) }) rfl (by kernel_rfl) (by kernel_rfl) (by kernel_rfl) (fun _ _ _ h => h) (Or.inr ⟨by rfl, rfl⟩) (by assumption) ?_
      try simp only [Act.put, List.setIfInBounds_toArray, List.set_cons_zero, List.set_cons_succ]
      refine wpAnyH_ready (rs := [61]) (by kernel_rfl) (by simp) ?_
      refine AllReadyH.cons (o := { dst := some 178, op := Op.pick (Operand.tmp 126) (Operand.const (Value.bool true)) (Operand.tmp 177), type := 4, pos := "law.go:96", after := _, guard := none }) rfl (fun K hK => ?_) AllReadyH.nil
      go_simp
      skip
      refine hK.out _ _ ?_ (fun hHeldcr61 => ?_)
      · exact (BW.cell (p := ⟨w.heap.size, 2, none⟩) ckC_lt).trans ckC_2
      clear hK K hHeldcr
      try simp only [Act.put, List.setIfInBounds_toArray, List.set_cons_zero, List.set_cons_succ]
      refine wpAnyH_ready (rs := [62]) (by kernel_rfl) (by simp) ?_
      refine AllReadyH.cons (o := { dst := some 10, op := Op.assign (Operand.tmp 178), type := 4, pos := "law.go:96", after := _, guard := none }) rfl (fun K hK => ?_) AllReadyH.nil
      go_simp
      skip
      refine hK.out _ _ ?_ (fun hHeldcr62 => ?_)
      · exact (BW.cell (p := ⟨w.heap.size, 2, none⟩) ckC_lt).trans ckC_2
      clear hK K hHeldcr61
      try simp only [Act.put, List.setIfInBounds_toArray, List.set_cons_zero, List.set_cons_succ]
      refine wpAnyH_done (by kernel_rfl) ?_ _
      go_wp2
      go_ret
      exact ⟨rfl, hY10.drew⟩
    obtain ⟨n, rfl⟩ := Int.eq_ofNat_of_zero_le (Int.not_lt.1 k1)
    have hn : n < ls.length := by omega
    have hnB : n < lsB.length := by rw [HLB.out]; exact hn
    have hnA : n < lsA.length := by rw [HLA.out]; exact hn
    obtain ⟨hge, hsame⟩ := HK.out n hn hnB hnA
    obtain ⟨b0, o0, rfl, hlt0, hel0⟩ := Sl.pos encL encL_len hst0.sl (by omega)
    obtain ⟨bA, oA, rfl, hltA, helA⟩ := Sl.pos encL encL_len hstA.sl (by omega)
    obtain ⟨bB, oB, rfl, hltB, helB⟩ := Sl.pos encL encL_len hstB.sl (by omega)
    have z1 : (0 : Int) ≤ (n : Int) := by omega
    have z2 : (n : Int) < (ls.length : Int) := by omega
    have z3 : (n : Int) < (lsA.length : Int) := by omega
    have z4 : (n : Int) < (lsB.length : Int) := by omega
    have d1 : decide ((n : Int) < 0) = false := by simp
    have d2 : decide (ls.length ≤ n) = false := by simpa using hn
    have d3 : decide (n < lsB.length) = true := by simpa using hnB
    by_cases hi : (n : Int) = i
    · subst hi
      clear hsame
      have e00 := hel0 w10 (Below.refl _ _) n hn 0 _ rfl
      have e01 := hel0 w10 (Below.refl _ _) n hn 1 _ rfl
      simp only [Nat.add_zero] at e00
      have eA0 := helA w10 (Below.refl _ _) n hnA 0 _ rfl
      have eA1 := helA w10 (Below.refl _ _) n hnA 1 _ rfl
      simp only [Nat.add_zero] at eA0
      have eB0 := helB w10 (Below.refl _ _) n hnB 0 _ rfl
      have eB1 := helB w10 (Below.refl _ _) n hnB 1 _ rfl
      simp only [Nat.add_zero] at eB0
      clear hel0 helA helB HK
      generalize ls[n] = x at *
      generalize lsA[n] = y at *
      generalize lsB[n] = z at *
      go_wp2_with fail
      have ckC_lt := kC.lt
      have ckC_2 : w10.cell? ⟨w.heap.size, 2, none⟩ = some (.slice (some ⟨b0, o0, none⟩) ls.length c0) := by rw [kC.cell]; rfl
      have ckA_lt := kA.lt
      have ckA_2 : w10.cell? ⟨w3.heap.size, 2, none⟩ = some (.slice (some ⟨bA, oA, none⟩) lsA.length dA) := by rw [kA.cell]; rfl
      have ckB_lt := kB.lt
      have ckB_2 : w10.cell? ⟨w4.heap.size, 2, none⟩ = some (.slice (some ⟨bB, oB, none⟩) lsB.length dB) := by rw [kB.cell]; rfl
      have BW := (Below.refl w10.heap.size w10).drew
      refine wp_region_held_drew (S := fun w' => w'.cell? ⟨w.heap.size, 2, none⟩ = some (.slice (some ⟨b0, o0, none⟩) ls.length c0) ∧ w'.cell? ⟨w4.heap.size, 2, none⟩ = some (.slice (some ⟨bB, oB, none⟩) lsB.length dB) ∧ w'.cell? ⟨b0, o0 + n * 2, none⟩ = some (.int .i64 x.v) ∧ w'.cell? ⟨bB, oB + n * 2, none⟩ = some (.int .i64 z.v)) (by kernel_rfl) ?_ (fun hHelddr => ?_)
      · exact ⟨(BW.cell (p := ⟨w.heap.size, 2, none⟩) ckC_lt).trans ckC_2, (BW.cell (p := ⟨w4.heap.size, 2, none⟩) ckB_lt).trans ckB_2, (BW.cell (p := ⟨b0, o0 + n * 2, none⟩) hlt0).trans e00, (BW.cell (p := ⟨bB, oB + n * 2, none⟩) hltB).trans eB0⟩
      refine wpAnyH_take (i := 0) (oi := { dst := some 117, op := Op.move (Operand.tmp 4), type := 3, pos := "law.go:96", after := _, guard := none }) (v := ?vdr0) rfl (by kernel_rfl) (by kernel_rfl) (by kernel_rfl) (fun _ _ _ h => h) (Or.inl ⟨by rfl, ?hydr0⟩) (by assumption) ?restdr0
      case hydr0 => (intro w hSw; (try dsimp only at hSw); go_simp <;> with_reducible rfl)
      try simp only [Act.put, List.setIfInBounds_toArray, List.set_cons_zero, List.set_cons_succ]
      refine wpAnyH_take (i := 1) (oi := { dst := some 118, op := Op.binOp BinOp.lss 3 (Operand.tmp 117) (Operand.const (Value.int IntKind.i64 0)) 3, type := 4, pos := "law.go:96", after := _, guard := none }) (v := .bool false) rfl (by kernel_rfl) (by kernel_rfl) (by kernel_rfl) (fun _ _ _ h => h) (Or.inl ⟨by rfl, ?hydr1⟩) (by assumption) ?restdr1
      case hydr1 => (intro w hSw; (try dsimp only at hSw); go_simp <;> first | done | with_reducible rfl | (simp; done) | (simp; omega))
      try simp only [Act.put, List.setIfInBounds_toArray, List.set_cons_zero, List.set_cons_succ]
      refine wpAnyH_take (i := 2) (oi := { dst := some 119, op := Op.move (Operand.tmp 118), type := 4, pos := "law.go:96", after := _, guard := none }) (v := ?vdr2) rfl (by kernel_rfl) (by kernel_rfl) (by kernel_rfl) (fun _ _ _ h => h) (Or.inl ⟨by rfl, ?hydr2⟩) (by assumption) ?restdr2
      case hydr2 => (intro w hSw; (try dsimp only at hSw); go_simp <;> with_reducible rfl)
      try simp only [Act.put, List.setIfInBounds_toArray, List.set_cons_zero, List.set_cons_succ]
      refine wpAnyH_take (i := 3) (oi := { dst := some 120, op := Op.move (Operand.tmp 4), type := 3, pos := "law.go:96", after := _, guard := some (2, false) }) (v := ?vdr3) rfl (by kernel_rfl) (by kernel_rfl) (by kernel_rfl) (fun _ _ _ h => h) (Or.inl ⟨by rfl, ?hydr3⟩) (by assumption) ?restdr3
      case hydr3 => (intro w hSw; (try dsimp only at hSw); go_simp <;> with_reducible rfl)
      try simp only [Act.put, List.setIfInBounds_toArray, List.set_cons_zero, List.set_cons_succ]
      refine wpAnyH_take (i := 4) (oi := { dst := some 121, op := Op.fieldAddr 24 (Operand.tmp 5) 2, type := 0, pos := "law.go:96", after := _, guard := some (2, false) }) (v := ?vdr4) rfl (by kernel_rfl) (by kernel_rfl) (by kernel_rfl) (fun _ _ _ h => h) (Or.inl ⟨by rfl, ?hydr4⟩) (by assumption) ?restdr4
      case hydr4 => (intro w hSw; (try dsimp only at hSw); go_simp <;> with_reducible rfl)
      try simp only [Act.put, List.setIfInBounds_toArray, List.set_cons_zero, List.set_cons_succ]
      refine wpAnyH_take (i := 5) (oi := { dst := some 122, op := Op.load 22 (Operand.tmp 121), type := 22, pos := "law.go:96", after := _, guard := some (2, false) }) (v := ?vdr5) rfl (by kernel_rfl) (by kernel_rfl) (by kernel_rfl) (fun _ _ _ h => h) (Or.inl ⟨by rfl, ?hydr5⟩) (by assumption) ?restdr5
      case hydr5 => (intro w hSw; (try dsimp only at hSw); go_simp <;> with_reducible rfl)
      try simp only [Act.put, List.setIfInBounds_toArray, List.set_cons_zero, List.set_cons_succ]
      refine wpAnyH_take (i := 6) (oi := { dst := some 123, op := Op.call { callee := Callee.builtin Builtin.len, args := #[Operand.tmp 122], argTypes := #[22] }, type := 3, pos := "law.go:96", after := _, guard := some (2, false) }) (v := ?vdr6) rfl (by kernel_rfl) (by kernel_rfl) (by kernel_rfl) (fun _ _ _ h => h) (Or.inl ⟨by rfl, ?hydr6⟩) (by assumption) ?restdr6
      case hydr6 => (intro w hSw; (try dsimp only at hSw); go_simp <;> with_reducible rfl)
      try simp only [Act.put, List.setIfInBounds_toArray, List.set_cons_zero, List.set_cons_succ]
      refine wpAnyH_take (i := 7) (oi := { dst := some 124, op := Op.binOp BinOp.geq 3 (Operand.tmp 120) (Operand.tmp 123) 3, type := 4, pos := "law.go:96", after := _, guard := some (2, false) }) (v := ?vdr7) rfl (by kernel_rfl) (by kernel_rfl) (by kernel_rfl) (fun _ _ _ h => h) (Or.inl ⟨by rfl, ?hydr7⟩) (by assumption) ?restdr7
      case hydr7 => (intro w hSw; (try dsimp only at hSw); go_simp <;> with_reducible rfl)
      try simp only [Act.put, List.setIfInBounds_toArray, List.set_cons_zero, List.set_cons_succ]
      refine wpAnyH_take (i := 8) (oi := { dst := some 125, op := Op.pick (Operand.tmp 119) (Operand.const (Value.bool true)) (Operand.tmp 124), type := 4, pos := "law.go:96", after := _, guard := none }) (v := ?vdr8) rfl (by kernel_rfl) (by kernel_rfl) (by kernel_rfl) (fun _ _ _ h => h) (Or.inl ⟨by rfl, ?hydr8⟩) (by assumption) ?restdr8
      case hydr8 => (intro w hSw; (try dsimp only at hSw); go_simp <;> with_reducible rfl)
      try simp only [Act.put, List.setIfInBounds_toArray, List.set_cons_zero, List.set_cons_succ]
      refine wpAnyH_take (i := 9) (oi := { dst := some 126, op := Op.move (Operand.tmp 125), type := 4, pos := "law.go:96", after := _, guard := none }) (v := ?vdr9) rfl (by kernel_rfl) (by kernel_rfl) (by kernel_rfl) (fun _ _ _ h => h) (Or.inl ⟨by rfl, ?hydr9⟩) (by assumption) ?restdr9
      case hydr9 => (intro w hSw; (try dsimp only at hSw); go_simp <;> with_reducible rfl)
      try simp only [Act.put, List.setIfInBounds_toArray, List.set_cons_zero, List.set_cons_succ]
      refine wpAnyH_take (i := 10) (oi := { dst := some 127, op := Op.move (Operand.tmp 4), type := 3, pos := "law.go:96", after := _, guard := some (9, false) }) (v := ?vdr10) rfl (by kernel_rfl) (by kernel_rfl) (by kernel_rfl) (fun _ _ _ h => h) (Or.inl ⟨by rfl, ?hydr10⟩) (by assumption) ?restdr10
      case hydr10 => (intro w hSw; (try dsimp only at hSw); go_simp <;> with_reducible rfl)
      try simp only [Act.put, List.setIfInBounds_toArray, List.set_cons_zero, List.set_cons_succ]
      refine wpAnyH_take (i := 11) (oi := { dst := some 128, op := Op.fieldAddr 24 (Operand.tmp 14) 2, type := 0, pos := "law.go:96", after := _, guard := some (9, false) }) (v := ?vdr11) rfl (by kernel_rfl) (by kernel_rfl) (by kernel_rfl) (fun _ _ _ h => h) (Or.inl ⟨by rfl, ?hydr11⟩) (by assumption) ?restdr11
      case hydr11 => (intro w hSw; (try dsimp only at hSw); go_simp <;> with_reducible rfl)
      try simp only [Act.put, List.setIfInBounds_toArray, List.set_cons_zero, List.set_cons_succ]
      refine wpAnyH_take (i := 12) (oi := { dst := some 129, op := Op.load 22 (Operand.tmp 128), type := 22, pos := "law.go:96", after := _, guard := some (9, false) }) (v := ?vdr12) rfl (by kernel_rfl) (by kernel_rfl) (by kernel_rfl) (fun _ _ _ h => h) (Or.inl ⟨by rfl, ?hydr12⟩) (by assumption) ?restdr12
      case hydr12 => (intro w hSw; (try dsimp only at hSw); go_simp <;> with_reducible rfl)
      try simp only [Act.put, List.setIfInBounds_toArray, List.set_cons_zero, List.set_cons_succ]
      refine wpAnyH_take (i := 13) (oi := { dst := some 130, op := Op.call { callee := Callee.builtin Builtin.len, args := #[Operand.tmp 129], argTypes := #[22] }, type := 3, pos := "law.go:96", after := _, guard := some (9, false) }) (v := ?vdr13) rfl (by kernel_rfl) (by kernel_rfl) (by kernel_rfl) (fun _ _ _ h => h) (Or.inl ⟨by rfl, ?hydr13⟩) (by assumption) ?restdr13
      case hydr13 => (intro w hSw; (try dsimp only at hSw); go_simp <;> with_reducible rfl)
      try simp only [Act.put, List.setIfInBounds_toArray, List.set_cons_zero, List.set_cons_succ]
      refine wpAnyH_take (i := 14) (oi := { dst := some 131, op := Op.binOp BinOp.lss 3 (Operand.tmp 127) (Operand.tmp 130) 3, type := 4, pos := "law.go:96", after := _, guard := some (9, false) }) (v := ?vdr14) rfl (by kernel_rfl) (by kernel_rfl) (by kernel_rfl) (fun _ _ _ h => h) (Or.inl ⟨by rfl, ?hydr14⟩) (by assumption) ?restdr14
      case hydr14 => (intro w hSw; (try dsimp only at hSw); go_simp <;> with_reducible rfl)
      try simp only [Act.put, List.setIfInBounds_toArray, List.set_cons_zero, List.set_cons_succ]
      refine wpAnyH_take (i := 15) (oi := { dst := some 132, op := Op.move (Operand.tmp 131), type := 4, pos := "law.go:96", after := _, guard := some (9, false) }) (v := ?vdr15) rfl (by kernel_rfl) (by kernel_rfl) (by kernel_rfl) (fun _ _ _ h => h) (Or.inl ⟨by rfl, ?hydr15⟩) (by assumption) ?restdr15
      case hydr15 => (intro w hSw; (try dsimp only at hSw); go_simp <;> with_reducible rfl)
      try simp only [Act.put, List.setIfInBounds_toArray, List.set_cons_zero, List.set_cons_succ]
      refine wpAnyH_take (i := 16) (oi := { dst := some 133, op := Op.fieldAddr 24 (Operand.tmp 14) 2, type := 0, pos := "law.go:96", after := _, guard := some (15, true) }) (v := ?vdr16) rfl (by kernel_rfl) (by kernel_rfl) (by kernel_rfl) (fun _ _ _ h => h) (Or.inl ⟨by rfl, ?hydr16⟩) (by assumption) ?restdr16
      case hydr16 => (intro w hSw; (try dsimp only at hSw); go_simp <;> with_reducible rfl)
      try simp only [Act.put, List.setIfInBounds_toArray, List.set_cons_zero, List.set_cons_succ]
      refine wpAnyH_take (i := 17) (oi := { dst := some 134, op := Op.load 22 (Operand.tmp 133), type := 22, pos := "law.go:96", after := _, guard := some (15, true) }) (v := ?vdr17) rfl (by kernel_rfl) (by kernel_rfl) (by kernel_rfl) (fun _ _ _ h => h) (Or.inl ⟨by rfl, ?hydr17⟩) (by assumption) ?restdr17
      case hydr17 => (intro w hSw; (try dsimp only at hSw); go_simp <;> with_reducible rfl)
      try simp only [Act.put, List.setIfInBounds_toArray, List.set_cons_zero, List.set_cons_succ]
      refine wpAnyH_take (i := 18) (oi := { dst := some 135, op := Op.move (Operand.tmp 4), type := 3, pos := "law.go:96", after := _, guard := some (15, true) }) (v := ?vdr18) rfl (by kernel_rfl) (by kernel_rfl) (by kernel_rfl) (fun _ _ _ h => h) (Or.inl ⟨by rfl, ?hydr18⟩) (by assumption) ?restdr18
      case hydr18 => (intro w hSw; (try dsimp only at hSw); go_simp <;> with_reducible rfl)
      try simp only [Act.put, List.setIfInBounds_toArray, List.set_cons_zero, List.set_cons_succ]
      refine wpAnyH_take (i := 19) (oi := { dst := some 136, op := Op.indexAddr 22 (Operand.tmp 134) (Operand.tmp 135), type := 0, pos := "law.go:96", after := _, guard := some (15, true) }) (v := ?vdr19) rfl (by kernel_rfl) (by kernel_rfl) (by kernel_rfl) (fun _ _ _ h => h) (Or.inl ⟨by rfl, ?hydr19⟩) (by assumption) ?restdr19
      case hydr19 => (intro w hSw; (try dsimp only at hSw); go_simp <;> with_reducible rfl)
      try simp only [Act.put, List.setIfInBounds_toArray, List.set_cons_zero, List.set_cons_succ]
      refine wpAnyH_take (i := 20) (oi := { dst := some 137, op := Op.fieldAddr 40 (Operand.tmp 136) 0, type := 0, pos := "law.go:96", after := _, guard := some (15, true) }) (v := ?vdr20) rfl (by kernel_rfl) (by kernel_rfl) (by kernel_rfl) (fun _ _ _ h => h) (Or.inl ⟨by rfl, ?hydr20⟩) (by assumption) ?restdr20
      case hydr20 => (intro w hSw; (try dsimp only at hSw); go_simp <;> with_reducible rfl)
      try simp only [Act.put, List.setIfInBounds_toArray, List.set_cons_zero, List.set_cons_succ]
      refine wpAnyH_take (i := 21) (oi := { dst := some 138, op := Op.load 3 (Operand.tmp 137), type := 3, pos := "law.go:96", after := _, guard := some (15, true) }) (v := ?vdr21) rfl (by kernel_rfl) (by kernel_rfl) (by kernel_rfl) (fun _ _ _ h => h) (Or.inl ⟨by rfl, ?hydr21⟩) (by assumption) ?restdr21
      case hydr21 => (intro w hSw; (try dsimp only at hSw); go_simp <;> with_reducible rfl)
      try simp only [Act.put, List.setIfInBounds_toArray, List.set_cons_zero, List.set_cons_succ]
      refine wpAnyH_take (i := 22) (oi := { dst := some 139, op := Op.fieldAddr 24 (Operand.tmp 5) 2, type := 0, pos := "law.go:96", after := _, guard := some (15, true) }) (v := ?vdr22) rfl (by kernel_rfl) (by kernel_rfl) (by kernel_rfl) (fun _ _ _ h => h) (Or.inl ⟨by rfl, ?hydr22⟩) (by assumption) ?restdr22
      case hydr22 => (intro w hSw; (try dsimp only at hSw); go_simp <;> with_reducible rfl)
      try simp only [Act.put, List.setIfInBounds_toArray, List.set_cons_zero, List.set_cons_succ]
      refine wpAnyH_take (i := 23) (oi := { dst := some 140, op := Op.load 22 (Operand.tmp 139), type := 22, pos := "law.go:96", after := _, guard := some (15, true) }) (v := ?vdr23) rfl (by kernel_rfl) (by kernel_rfl) (by kernel_rfl) (fun _ _ _ h => h) (Or.inl ⟨by rfl, ?hydr23⟩) (by assumption) ?restdr23
      case hydr23 => (intro w hSw; (try dsimp only at hSw); go_simp <;> with_reducible rfl)
      try simp only [Act.put, List.setIfInBounds_toArray, List.set_cons_zero, List.set_cons_succ]
      refine wpAnyH_take (i := 24) (oi := { dst := some 141, op := Op.move (Operand.tmp 4), type := 3, pos := "law.go:96", after := _, guard := some (15, true) }) (v := ?vdr24) rfl (by kernel_rfl) (by kernel_rfl) (by kernel_rfl) (fun _ _ _ h => h) (Or.inl ⟨by rfl, ?hydr24⟩) (by assumption) ?restdr24
      case hydr24 => (intro w hSw; (try dsimp only at hSw); go_simp <;> with_reducible rfl)
      try simp only [Act.put, List.setIfInBounds_toArray, List.set_cons_zero, List.set_cons_succ]
      refine wpAnyH_take (i := 25) (oi := { dst := some 142, op := Op.indexAddr 22 (Operand.tmp 140) (Operand.tmp 141), type := 0, pos := "law.go:96", after := _, guard := some (15, true) }) (v := ?vdr25) rfl (by kernel_rfl) (by kernel_rfl) (by kernel_rfl) (fun _ _ _ h => h) (Or.inl ⟨by rfl, ?hydr25⟩) (by assumption) ?restdr25
      case hydr25 => (intro w hSw; (try dsimp only at hSw); go_simp <;> with_reducible rfl)
      try simp only [Act.put, List.setIfInBounds_toArray, List.set_cons_zero, List.set_cons_succ]
      refine wpAnyH_take (i := 26) (oi := { dst := some 143, op := Op.fieldAddr 40 (Operand.tmp 142) 0, type := 0, pos := "law.go:96", after := _, guard := some (15, true) }) (v := ?vdr26) rfl (by kernel_rfl) (by kernel_rfl) (by kernel_rfl) (fun _ _ _ h => h) (Or.inl ⟨by rfl, ?hydr26⟩) (by assumption) ?restdr26
      case hydr26 => (intro w hSw; (try dsimp only at hSw); go_simp <;> with_reducible rfl)
      try simp only [Act.put, List.setIfInBounds_toArray, List.set_cons_zero, List.set_cons_succ]
      refine wpAnyH_take (i := 27) (oi := { dst := some 144, op := Op.load 3 (Operand.tmp 143), type := 3, pos := "law.go:96", after := _, guard := some (15, true) }) (v := ?vdr27) rfl (by kernel_rfl) (by kernel_rfl) (by kernel_rfl) (fun _ _ _ h => h) (Or.inl ⟨by rfl, ?hydr27⟩) (by assumption) ?restdr27
      case hydr27 => (intro w hSw; (try dsimp only at hSw); go_simp <;> with_reducible rfl)
      try simp only [Act.put, List.setIfInBounds_toArray, List.set_cons_zero, List.set_cons_succ]
      refine wpAnyH_take (i := 28) (oi := { dst := some 145, op := Op.binOp BinOp.geq 3 (Operand.tmp 138) (Operand.tmp 144) 3, type := 4, pos := "law.go:96", after := _, guard := some (15, true) }) (v := ?vdr28) rfl (by kernel_rfl) (by kernel_rfl) (by kernel_rfl) (fun _ _ _ h => h) (Or.inl ⟨by rfl, ?hydr28⟩) (by assumption) ?restdr28
      case hydr28 => (intro w hSw; (try dsimp only at hSw); go_simp <;> with_reducible rfl)
      try simp only [Act.put, List.setIfInBounds_toArray, List.set_cons_zero, List.set_cons_succ]
      refine wpAnyH_take (i := 29) (oi := { dst := some 146, op := Op.pick (Operand.tmp 132) (Operand.tmp 145) (Operand.const (Value.bool false)), type := 4, pos := "law.go:96", after := _, guard := some (9, false) }) (v := ?vdr29) rfl (by kernel_rfl) (by kernel_rfl) (by kernel_rfl) (fun _ _ _ h => h) (Or.inl ⟨by rfl, ?hydr29⟩) (by assumption) ?restdr29
      case hydr29 => (intro w hSw; (try dsimp only at hSw); go_simp <;> with_reducible rfl)
      try simp only [Act.put, List.setIfInBounds_toArray, List.set_cons_zero, List.set_cons_succ]
      refine wpAnyH_take (i := 30) (oi := { dst := some 147, op := Op.move (Operand.tmp 146), type := 4, pos := "law.go:96", after := _, guard := some (9, false) }) (v := ?vdr30) rfl (by kernel_rfl) (by kernel_rfl) (by kernel_rfl) (fun _ _ _ h => h) (Or.inl ⟨by rfl, ?hydr30⟩) (by assumption) ?restdr30
      case hydr30 => (intro w hSw; (try dsimp only at hSw); go_simp <;> with_reducible rfl)
      try simp only [Act.put, List.setIfInBounds_toArray, List.set_cons_zero, List.set_cons_succ]
      refine wpAnyH_take (i := 31) (oi := { dst := some 148, op := Op.move (Operand.tmp 4), type := 3, pos := "law.go:96", after := _, guard := some (30, true) }) (v := ?vdr31) rfl (by kernel_rfl) (by kernel_rfl) (by kernel_rfl) (fun _ _ _ h => h) (Or.inl ⟨by rfl, ?hydr31⟩) (by assumption) ?restdr31
      case hydr31 => (intro w hSw; (try dsimp only at hSw); go_simp <;> with_reducible rfl)
      try simp only [Act.put, List.setIfInBounds_toArray, List.set_cons_zero, List.set_cons_succ]
      refine wpAnyH_take (i := 32) (oi := { dst := some 149, op := Op.move (Operand.tmp 1), type := 3, pos := "law.go:96", after := _, guard := some (30, true) }) (v := ?vdr32) rfl (by kernel_rfl) (by kernel_rfl) (by kernel_rfl) (fun _ _ _ h => h) (Or.inl ⟨by rfl, ?hydr32⟩) (by assumption) ?restdr32
      case hydr32 => (intro w hSw; (try dsimp only at hSw); go_simp <;> with_reducible rfl)
      try simp only [Act.put, List.setIfInBounds_toArray, List.set_cons_zero, List.set_cons_succ]
      refine wpAnyH_take (i := 33) (oi := { dst := some 150, op := Op.binOp BinOp.eql 3 (Operand.tmp 148) (Operand.tmp 149) 3, type := 4, pos := "law.go:96", after := _, guard := some (30, true) }) (v := ?vdr33) rfl (by kernel_rfl) (by kernel_rfl) (by kernel_rfl) (fun _ _ _ h => h) (Or.inl ⟨by rfl, ?hydr33⟩) (by assumption) ?restdr33
      case hydr33 => (intro w hSw; (try dsimp only at hSw); go_simp <;> with_reducible rfl)
      try simp only [Act.put, List.setIfInBounds_toArray, List.set_cons_zero, List.set_cons_succ]
      refine wpAnyH_take (i := 34) (oi := { dst := some 151, op := Op.move (Operand.tmp 150), type := 4, pos := "law.go:96", after := _, guard := some (30, true) }) (v := ?vdr34) rfl (by kernel_rfl) (by kernel_rfl) (by kernel_rfl) (fun _ _ _ h => h) (Or.inl ⟨by rfl, ?hydr34⟩) (by assumption) ?restdr34
      case hydr34 => (intro w hSw; (try dsimp only at hSw); go_simp <;> with_reducible rfl)
      try simp only [Act.put, List.setIfInBounds_toArray, List.set_cons_zero, List.set_cons_succ]
      refine wpAnyH_take (i := 35) (oi := { dst := some 152, op := Op.fieldAddr 24 (Operand.tmp 14) 2, type := 0, pos := "law.go:96", after := _, guard := some (34, false) }) rfl (by kernel_rfl) (by kernel_rfl) (by kernel_rfl) (fun _ _ _ h => h) (Or.inr ⟨by rfl, rfl⟩) (by assumption) ?_
      try simp only [Act.put, List.setIfInBounds_toArray, List.set_cons_zero, List.set_cons_succ]
      refine wpAnyH_take (i := 36) (oi := { dst := some 153, op := Op.load 22 (Operand.tmp 152), type := 22, pos := "law.go:96", after := _, guard := some (34, false) }) rfl (by kernel_rfl) (by kernel_rfl) (by kernel_rfl) (fun _ _ _ h => h) (Or.inr ⟨by rfl, rfl⟩) (by assumption) ?_
      try simp only [Act.put, List.setIfInBounds_toArray, List.set_cons_zero, List.set_cons_succ]
      refine wpAnyH_take (i := 37) (oi := { dst := some 154, op := Op.move (Operand.tmp 4), type := 3, pos := "law.go:96", after := _, guard := some (34, false) }) rfl (by kernel_rfl) (by kernel_rfl) (by kernel_rfl) (fun _ _ _ h => h) (Or.inr ⟨by rfl, rfl⟩) (by assumption) ?_
      try simp only [Act.put, List.setIfInBounds_toArray, List.set_cons_zero, List.set_cons_succ]
      refine wpAnyH_take (i := 38) (oi := { dst := some 155, op := Op.indexAddr 22 (Operand.tmp 153) (Operand.tmp 154), type := 0, pos := "law.go:96", after := _, guard := some (34, false) }) rfl (by kernel_rfl) (by kernel_rfl) (by kernel_rfl) (fun _ _ _ h => h) (Or.inr ⟨by rfl, rfl⟩) (by assumption) ?_
      try simp only [Act.put, List.setIfInBounds_toArray, List.set_cons_zero, List.set_cons_succ]
      refine wpAnyH_take (i := 39) (oi := { dst := some 156, op := Op.load 40 (Operand.tmp 155), type := 40, pos := "law.go:96", after := _, guard := some (34, false) }) rfl (by kernel_rfl) (by kernel_rfl) (by kernel_rfl) (fun _ _ _ h => h) (Or.inr ⟨by rfl, rfl⟩) (by assumption) ?_
      try simp only [Act.put, List.setIfInBounds_toArray, List.set_cons_zero, List.set_cons_succ]
      refine wpAnyH_take (i := 40) (oi := { dst := some 157, op := Op.fieldAddr 24 (Operand.tmp 5) 2, type := 0, pos := "law.go:96", after := _, guard := some (34, false) }) rfl (by kernel_rfl) (by kernel_rfl) (by kernel_rfl) (fun _ _ _ h => h) (Or.inr ⟨by rfl, rfl⟩) (by assumption) ?_
      try simp only [Act.put, List.setIfInBounds_toArray, List.set_cons_zero, List.set_cons_succ]
      refine wpAnyH_take (i := 41) (oi := { dst := some 158, op := Op.load 22 (Operand.tmp 157), type := 22, pos := "law.go:96", after := _, guard := some (34, false) }) rfl (by kernel_rfl) (by kernel_rfl) (by kernel_rfl) (fun _ _ _ h => h) (Or.inr ⟨by rfl, rfl⟩) (by assumption) ?_
      try simp only [Act.put, List.setIfInBounds_toArray, List.set_cons_zero, List.set_cons_succ]
      refine wpAnyH_take (i := 42) (oi := { dst := some 159, op := Op.move (Operand.tmp 4), type := 3, pos := "law.go:96", after := _, guard := some (34, false) }) rfl (by kernel_rfl) (by kernel_rfl) (by kernel_rfl) (fun _ _ _ h => h) (Or.inr ⟨by rfl, rfl⟩) (by assumption) ?_
      try simp only [Act.put, List.setIfInBounds_toArray, List.set_cons_zero, List.set_cons_succ]
      refine wpAnyH_take (i := 43) (oi := { dst := some 160, op := Op.indexAddr 22 (Operand.tmp 158) (Operand.tmp 159), type := 0, pos := "law.go:96", after := _, guard := some (34, false) }) rfl (by kernel_rfl) (by kernel_rfl) (by kernel_rfl) (fun _ _ _ h => h) (Or.inr ⟨by rfl, rfl⟩) (by assumption) ?_
      try simp only [Act.put, List.setIfInBounds_toArray, List.set_cons_zero, List.set_cons_succ]
      refine wpAnyH_take (i := 44) (oi := { dst := some 161, op := Op.load 40 (Operand.tmp 160), type := 40, pos := "law.go:96", after := _, guard := some (34, false) }) rfl (by kernel_rfl) (by kernel_rfl) (by kernel_rfl) (fun _ _ _ h => h) (Or.inr ⟨by rfl, rfl⟩) (by assumption) ?_
      try simp only [Act.put, List.setIfInBounds_toArray, List.set_cons_zero, List.set_cons_succ]
      refine wpAnyH_take (i := 45) (oi := { dst := some 162, op := Op.binOp BinOp.eql 40 (Operand.tmp 156) (Operand.tmp 161) 40, type := 4, pos := "law.go:96", after := _, guard := some (34, false) }) rfl (by kernel_rfl) (by kernel_rfl) (by kernel_rfl) (fun _ _ _ h => h) (Or.inr ⟨by rfl, rfl⟩) (by assumption) ?_
      try simp only [Act.put, List.setIfInBounds_toArray, List.set_cons_zero, List.set_cons_succ]
      refine wpAnyH_take (i := 46) (oi := { dst := some 163, op := Op.move (Operand.tmp 162), type := 4, pos := "law.go:96", after := _, guard := some (34, false) }) rfl (by kernel_rfl) (by kernel_rfl) (by kernel_rfl) (fun _ _ _ h => h) (Or.inr ⟨by rfl, rfl⟩) (by assumption) ?_
      try simp only [Act.put, List.setIfInBounds_toArray, List.set_cons_zero, List.set_cons_succ]
      refine wpAnyH_take (i := 47) (oi := { dst := some 164, op := Op.fieldAddr 24 (Operand.tmp 12) 2, type := 0, pos := "law.go:96", after := _, guard := some (46, true) }) rfl (by kernel_rfl) (by kernel_rfl) (by kernel_rfl) (fun _ _ _ h => h) (Or.inr ⟨by rfl, rfl⟩) (by assumption) ?_
      try simp only [Act.put, List.setIfInBounds_toArray, List.set_cons_zero, List.set_cons_succ]
      refine wpAnyH_take (i := 48) (oi := { dst := some 165, op := Op.load 22 (Operand.tmp 164), type := 22, pos := "law.go:96", after := _, guard := some (46, true) }) rfl (by kernel_rfl) (by kernel_rfl) (by kernel_rfl) (fun _ _ _ h => h) (Or.inr ⟨by rfl, rfl⟩) (by assumption) ?_
      try simp only [Act.put, List.setIfInBounds_toArray, List.set_cons_zero, List.set_cons_succ]
      refine wpAnyH_take (i := 49) (oi := { dst := some 166, op := Op.move (Operand.tmp 4), type := 3, pos := "law.go:96", after := _, guard := some (46, true) }) rfl (by kernel_rfl) (by kernel_rfl) (by kernel_rfl) (fun _ _ _ h => h) (Or.inr ⟨by rfl, rfl⟩) (by assumption) ?_
      try simp only [Act.put, List.setIfInBounds_toArray, List.set_cons_zero, List.set_cons_succ]
      refine wpAnyH_take (i := 50) (oi := { dst := some 167, op := Op.indexAddr 22 (Operand.tmp 165) (Operand.tmp 166), type := 0, pos := "law.go:96", after := _, guard := some (46, true) }) rfl (by kernel_rfl) (by kernel_rfl) (by kernel_rfl) (fun _ _ _ h => h) (Or.inr ⟨by rfl, rfl⟩) (by assumption) ?_
      try simp only [Act.put, List.setIfInBounds_toArray, List.set_cons_zero, List.set_cons_succ]
      refine wpAnyH_take (i := 51) (oi := { dst := some 168, op := Op.load 40 (Operand.tmp 167), type := 40, pos := "law.go:96", after := _, guard := some (46, true) }) rfl (by kernel_rfl) (by kernel_rfl) (by kernel_rfl) (fun _ _ _ h => h) (Or.inr ⟨by rfl, rfl⟩) (by assumption) ?_
      try simp only [Act.put, List.setIfInBounds_toArray, List.set_cons_zero, List.set_cons_succ]
      refine wpAnyH_take (i := 52) (oi := { dst := some 169, op := Op.fieldAddr 24 (Operand.tmp 5) 2, type := 0, pos := "law.go:96", after := _, guard := some (46, true) }) rfl (by kernel_rfl) (by kernel_rfl) (by kernel_rfl) (fun _ _ _ h => h) (Or.inr ⟨by rfl, rfl⟩) (by assumption) ?_
      try simp only [Act.put, List.setIfInBounds_toArray, List.set_cons_zero, List.set_cons_succ]
      refine wpAnyH_take (i := 53) (oi := { dst := some 170, op := Op.load 22 (Operand.tmp 169), type := 22, pos := "law.go:96", after := _, guard := some (46, true) }) rfl (by kernel_rfl) (by kernel_rfl) (by kernel_rfl) (fun _ _ _ h => h) (Or.inr ⟨by rfl, rfl⟩) (by assumption) ?_
      try simp only [Act.put, List.setIfInBounds_toArray, List.set_cons_zero, List.set_cons_succ]
      refine wpAnyH_take (i := 54) (oi := { dst := some 171, op := Op.move (Operand.tmp 4), type := 3, pos := "law.go:96", after := _, guard := some (46, true) }) rfl (by kernel_rfl) (by kernel_rfl) (by kernel_rfl) (fun _ _ _ h => h) (Or.inr ⟨by rfl, rfl⟩) (by assumption) ?_
      try simp only [Act.put, List.setIfInBounds_toArray, List.set_cons_zero, List.set_cons_succ]
      refine wpAnyH_take (i := 55) (oi := { dst := some 172, op := Op.indexAddr 22 (Operand.tmp 170) (Operand.tmp 171), type := 0, pos := "law.go:96", after := _, guard := some (46, true) }) rfl (by kernel_rfl) (by kernel_rfl) (by kernel_rfl) (fun _ _ _ h => h) (Or.inr ⟨by rfl, rfl⟩) (by assumption) ?_
      try simp only [Act.put, List.setIfInBounds_toArray, List.set_cons_zero, List.set_cons_succ]
      refine wpAnyH_take (i := 56) (oi := { dst := some 173, op := Op.load 40 (Operand.tmp 172), type := 40, pos := "law.go:96", after := _, guard := some (46, true) }) rfl (by kernel_rfl) (by kernel_rfl) (by kernel_rfl) (fun _ _ _ h => h) (Or.inr ⟨by rfl, rfl⟩) (by assumption) ?_
      try simp only [Act.put, List.setIfInBounds_toArray, List.set_cons_zero, List.set_cons_succ]
      refine wpAnyH_take (i := 57) (oi := { dst := some 174, op := Op.binOp BinOp.eql 40 (Operand.tmp 168) (Operand.tmp 173) 40, type := 4, pos := "law.go:96", after := _, guard := some (46, true) }) rfl (by kernel_rfl) (by kernel_rfl) (by kernel_rfl) (fun _ _ _ h => h) (Or.inr ⟨by rfl, rfl⟩) (by assumption) ?_
      try simp only [Act.put, List.setIfInBounds_toArray, List.set_cons_zero, List.set_cons_succ]
      refine wpAnyH_take (i := 58) (oi := { dst := some 175, op := Op.pick (Operand.tmp 163) (Operand.tmp 174) (Operand.const (Value.bool false)), type := 4, pos := "law.go:96", after := _, guard := some (34, false) }) rfl (by kernel_rfl) (by kernel_rfl) (by kernel_rfl) (fun _ _ _ h => h) (Or.inr ⟨by rfl, rfl⟩) (by assumption) ?_
      try simp only [Act.put, List.setIfInBounds_toArray, List.set_cons_zero, List.set_cons_succ]
      refine wpAnyH_take (i := 59) (oi := { dst := some 176, op := Op.pick (Operand.tmp 151) (Operand.const (Value.bool true)) (Operand.tmp 175), type := 4, pos := "law.go:96", after := _, guard := some (30, true) }) (v := ?vdr59) rfl (by kernel_rfl) (by kernel_rfl) (by kernel_rfl) (fun _ _ _ h => h) (Or.inl ⟨by rfl, ?hydr59⟩) (by assumption) ?restdr59
      case hydr59 => (intro w hSw; (try dsimp only at hSw); go_simp <;> with_reducible rfl)
      try simp only [Act.put, List.setIfInBounds_toArray, List.set_cons_zero, List.set_cons_succ]
      refine wpAnyH_take (i := 60) (oi := { dst := some 177, op := Op.pick (Operand.tmp 147) (Operand.tmp 176) (Operand.const (Value.bool false)), type := 4, pos := "law.go:96", after := _, guard := some (9, false) }) (v := ?vdr60) rfl (by kernel_rfl) (by kernel_rfl) (by kernel_rfl) (fun _ _ _ h => h) (Or.inl ⟨by rfl, ?hydr60⟩) (by assumption) ?restdr60
      case hydr60 => (intro w hSw; (try dsimp only at hSw); go_simp <;> with_reducible rfl)
      try simp only [Act.put, List.setIfInBounds_toArray, List.set_cons_zero, List.set_cons_succ]
      refine wpAnyH_ready (rs := [61]) (by kernel_rfl) (by simp) ?_
      refine AllReadyH.cons (o := { dst := some 178, op := Op.pick (Operand.tmp 126) (Operand.const (Value.bool true)) (Operand.tmp 177), type := 4, pos := "law.go:96", after := _, guard := none }) rfl (fun K hK => ?_) AllReadyH.nil
      go_simp
      skip
      refine hK.out _ _ ?_ (fun hHelddr61 => ?_)
      · exact ⟨(BW.cell (p := ⟨w.heap.size, 2, none⟩) ckC_lt).trans ckC_2, (BW.cell (p := ⟨w4.heap.size, 2, none⟩) ckB_lt).trans ckB_2, (BW.cell (p := ⟨b0, o0 + n * 2, none⟩) hlt0).trans e00, (BW.cell (p := ⟨bB, oB + n * 2, none⟩) hltB).trans eB0⟩
      clear hK K hHelddr
      try simp only [Act.put, List.setIfInBounds_toArray, List.set_cons_zero, List.set_cons_succ]
      refine wpAnyH_ready (rs := [62]) (by kernel_rfl) (by simp) ?_
      refine AllReadyH.cons (o := { dst := some 10, op := Op.assign (Operand.tmp 178), type := 4, pos := "law.go:96", after := _, guard := none }) rfl (fun K hK => ?_) AllReadyH.nil
      go_simp
      skip
      refine hK.out _ _ ?_ (fun hHelddr62 => ?_)
      · exact ⟨(BW.cell (p := ⟨w.heap.size, 2, none⟩) ckC_lt).trans ckC_2, (BW.cell (p := ⟨w4.heap.size, 2, none⟩) ckB_lt).trans ckB_2, (BW.cell (p := ⟨b0, o0 + n * 2, none⟩) hlt0).trans e00, (BW.cell (p := ⟨bB, oB + n * 2, none⟩) hltB).trans eB0⟩
      clear hK K hHelddr61
      try simp only [Act.put, List.setIfInBounds_toArray, List.set_cons_zero, List.set_cons_succ]
      refine wpAnyH_done (by kernel_rfl) ?_ _
      go_wp2
      go_ret
      exact ⟨rfl, hY10.drew⟩
    · obtain ⟨s1, s2⟩ := hsame hi
      have hi2 : ((n : Int) == i) = false := by simpa using hi
      have e00 := hel0 w10 (Below.refl _ _) n hn 0 _ rfl
      have e01 := hel0 w10 (Below.refl _ _) n hn 1 _ rfl
      simp only [Nat.add_zero] at e00
      have eA0 := helA w10 (Below.refl _ _) n hnA 0 _ rfl
      have eA1 := helA w10 (Below.refl _ _) n hnA 1 _ rfl
      simp only [Nat.add_zero] at eA0
      have eB0 := helB w10 (Below.refl _ _) n hnB 0 _ rfl
      have eB1 := helB w10 (Below.refl _ _) n hnB 1 _ rfl
      simp only [Nat.add_zero] at eB0
      clear hel0 helA helB HK
      rw [s1] at eB0 eB1
      rw [s2] at eA0 eA1
      clear s1 s2 hi hge
      generalize ls[n] = x at *
      have heq := fun w => eql_lock x x w
      have hgd := fun a b w => guard_lock .eql a b x x w
      rw [lkEq_refl] at heq
      simp only [encL] at heq hgd
      go_wp2_with fail
      have ckC_lt := kC.lt
      have ckC_2 : w10.cell? ⟨w.heap.size, 2, none⟩ = some (.slice (some ⟨b0, o0, none⟩) ls.length c0) := by rw [kC.cell]; rfl
      have ckA_lt := kA.lt
      have ckA_2 : w10.cell? ⟨w3.heap.size, 2, none⟩ = some (.slice (some ⟨bA, oA, none⟩) lsA.length dA) := by rw [kA.cell]; rfl
      have ckB_lt := kB.lt
      have ckB_2 : w10.cell? ⟨w4.heap.size, 2, none⟩ = some (.slice (some ⟨bB, oB, none⟩) lsB.length dB) := by rw [kB.cell]; rfl
      have BW := (Below.refl w10.heap.size w10).drew
      refine wp_region_held_drew (S := fun w' => w'.cell? ⟨w.heap.size, 2, none⟩ = some (.slice (some ⟨b0, o0, none⟩) ls.length c0) ∧ w'.cell? ⟨w3.heap.size, 2, none⟩ = some (.slice (some ⟨bA, oA, none⟩) lsA.length dA) ∧ w'.cell? ⟨w4.heap.size, 2, none⟩ = some (.slice (some ⟨bB, oB, none⟩) lsB.length dB) ∧ w'.cell? ⟨b0, o0 + n * 2, none⟩ = some (.int .i64 x.v) ∧ w'.cell? ⟨b0, o0 + n * 2 + 1, none⟩ = some (.int .i64 x.o) ∧ w'.cell? ⟨bA, oA + n * 2, none⟩ = some (.int .i64 x.v) ∧ w'.cell? ⟨bA, oA + n * 2 + 1, none⟩ = some (.int .i64 x.o) ∧ w'.cell? ⟨bB, oB + n * 2, none⟩ = some (.int .i64 x.v) ∧ w'.cell? ⟨bB, oB + n * 2 + 1, none⟩ = some (.int .i64 x.o)) (by kernel_rfl) ?_ (fun hHelder => ?_)
      · exact ⟨(BW.cell (p := ⟨w.heap.size, 2, none⟩) ckC_lt).trans ckC_2, (BW.cell (p := ⟨w3.heap.size, 2, none⟩) ckA_lt).trans ckA_2, (BW.cell (p := ⟨w4.heap.size, 2, none⟩) ckB_lt).trans ckB_2, (BW.cell (p := ⟨b0, o0 + n * 2, none⟩) hlt0).trans e00, (BW.cell (p := ⟨b0, o0 + n * 2 + 1, none⟩) hlt0).trans e01, (BW.cell (p := ⟨bA, oA + n * 2, none⟩) hltA).trans eA0, (BW.cell (p := ⟨bA, oA + n * 2 + 1, none⟩) hltA).trans eA1, (BW.cell (p := ⟨bB, oB + n * 2, none⟩) hltB).trans eB0, (BW.cell (p := ⟨bB, oB + n * 2 + 1, none⟩) hltB).trans eB1⟩
      refine wpAnyH_take (i := 0) (oi := { dst := some 117, op := Op.move (Operand.tmp 4), type := 3, pos := "law.go:96", after := _, guard := none }) (v := ?ver0) rfl (by kernel_rfl) (by kernel_rfl) (by kernel_rfl) (fun _ _ _ h => h) (Or.inl ⟨by rfl, ?hyer0⟩) (by assumption) ?rester0
      case hyer0 => (intro w hSw; (try dsimp only at hSw); go_simp <;> with_reducible rfl)
      try simp only [Act.put, List.setIfInBounds_toArray, List.set_cons_zero, List.set_cons_succ]
      refine wpAnyH_take (i := 1) (oi := { dst := some 118, op := Op.binOp BinOp.lss 3 (Operand.tmp 117) (Operand.const (Value.int IntKind.i64 0)) 3, type := 4, pos := "law.go:96", after := _, guard := none }) (v := .bool false) rfl (by kernel_rfl) (by kernel_rfl) (by kernel_rfl) (fun _ _ _ h => h) (Or.inl ⟨by rfl, ?hyer1⟩) (by assumption) ?rester1
      case hyer1 => (intro w hSw; (try dsimp only at hSw); go_simp <;> first | done | with_reducible rfl | (simp; done) | (simp; omega))
      try simp only [Act.put, List.setIfInBounds_toArray, List.set_cons_zero, List.set_cons_succ]
      refine wpAnyH_take (i := 2) (oi := { dst := some 119, op := Op.move (Operand.tmp 118), type := 4, pos := "law.go:96", after := _, guard := none }) (v := ?ver2) rfl (by kernel_rfl) (by kernel_rfl) (by kernel_rfl) (fun _ _ _ h => h) (Or.inl ⟨by rfl, ?hyer2⟩) (by assumption) ?rester2
      case hyer2 => (intro w hSw; (try dsimp only at hSw); go_simp <;> with_reducible rfl)
      try simp only [Act.put, List.setIfInBounds_toArray, List.set_cons_zero, List.set_cons_succ]
      refine wpAnyH_take (i := 3) (oi := { dst := some 120, op := Op.move (Operand.tmp 4), type := 3, pos := "law.go:96", after := _, guard := some (2, false) }) (v := ?ver3) rfl (by kernel_rfl) (by kernel_rfl) (by kernel_rfl) (fun _ _ _ h => h) (Or.inl ⟨by rfl, ?hyer3⟩) (by assumption) ?rester3
      case hyer3 => (intro w hSw; (try dsimp only at hSw); go_simp <;> with_reducible rfl)
      try simp only [Act.put, List.setIfInBounds_toArray, List.set_cons_zero, List.set_cons_succ]
      refine wpAnyH_take (i := 4) (oi := { dst := some 121, op := Op.fieldAddr 24 (Operand.tmp 5) 2, type := 0, pos := "law.go:96", after := _, guard := some (2, false) }) (v := ?ver4) rfl (by kernel_rfl) (by kernel_rfl) (by kernel_rfl) (fun _ _ _ h => h) (Or.inl ⟨by rfl, ?hyer4⟩) (by assumption) ?rester4
      case hyer4 => (intro w hSw; (try dsimp only at hSw); go_simp <;> with_reducible rfl)
      try simp only [Act.put, List.setIfInBounds_toArray, List.set_cons_zero, List.set_cons_succ]
      refine wpAnyH_take (i := 5) (oi := { dst := some 122, op := Op.load 22 (Operand.tmp 121), type := 22, pos := "law.go:96", after := _, guard := some (2, false) }) (v := ?ver5) rfl (by kernel_rfl) (by kernel_rfl) (by kernel_rfl) (fun _ _ _ h => h) (Or.inl ⟨by rfl, ?hyer5⟩) (by assumption) ?rester5
      case hyer5 => (intro w hSw; (try dsimp only at hSw); go_simp <;> with_reducible rfl)
      try simp only [Act.put, List.setIfInBounds_toArray, List.set_cons_zero, List.set_cons_succ]
      refine wpAnyH_take (i := 6) (oi := { dst := some 123, op := Op.call { callee := Callee.builtin Builtin.len, args := #[Operand.tmp 122], argTypes := #[22] }, type := 3, pos := "law.go:96", after := _, guard := some (2, false) }) (v := ?ver6) rfl (by kernel_rfl) (by kernel_rfl) (by kernel_rfl) (fun _ _ _ h => h) (Or.inl ⟨by rfl, ?hyer6⟩) (by assumption) ?rester6
      case hyer6 => (intro w hSw; (try dsimp only at hSw); go_simp <;> with_reducible rfl)
      try simp only [Act.put, List.setIfInBounds_toArray, List.set_cons_zero, List.set_cons_succ]
      refine wpAnyH_take (i := 7) (oi := { dst := some 124, op := Op.binOp BinOp.geq 3 (Operand.tmp 120) (Operand.tmp 123) 3, type := 4, pos := "law.go:96", after := _, guard := some (2, false) }) (v := ?ver7) rfl (by kernel_rfl) (by kernel_rfl) (by kernel_rfl) (fun _ _ _ h => h) (Or.inl ⟨by rfl, ?hyer7⟩) (by assumption) ?rester7
      case hyer7 => (intro w hSw; (try dsimp only at hSw); go_simp <;> with_reducible rfl)
      try simp only [Act.put, List.setIfInBounds_toArray, List.set_cons_zero, List.set_cons_succ]
      refine wpAnyH_take (i := 8) (oi := { dst := some 125, op := Op.pick (Operand.tmp 119) (Operand.const (Value.bool true)) (Operand.tmp 124), type := 4, pos := "law.go:96", after := _, guard := none }) (v := ?ver8) rfl (by kernel_rfl) (by kernel_rfl) (by kernel_rfl) (fun _ _ _ h => h) (Or.inl ⟨by rfl, ?hyer8⟩) (by assumption) ?rester8
      case hyer8 => (intro w hSw; (try dsimp only at hSw); go_simp <;> with_reducible rfl)
      try simp only [Act.put, List.setIfInBounds_toArray, List.set_cons_zero, List.set_cons_succ]
      refine wpAnyH_take (i := 9) (oi := { dst := some 126, op := Op.move (Operand.tmp 125), type := 4, pos := "law.go:96", after := _, guard := none }) (v := ?ver9) rfl (by kernel_rfl) (by kernel_rfl) (by kernel_rfl) (fun _ _ _ h => h) (Or.inl ⟨by rfl, ?hyer9⟩) (by assumption) ?rester9
      case hyer9 => (intro w hSw; (try dsimp only at hSw); go_simp <;> with_reducible rfl)
      try simp only [Act.put, List.setIfInBounds_toArray, List.set_cons_zero, List.set_cons_succ]
      refine wpAnyH_take (i := 10) (oi := { dst := some 127, op := Op.move (Operand.tmp 4), type := 3, pos := "law.go:96", after := _, guard := some (9, false) }) (v := ?ver10) rfl (by kernel_rfl) (by kernel_rfl) (by kernel_rfl) (fun _ _ _ h => h) (Or.inl ⟨by rfl, ?hyer10⟩) (by assumption) ?rester10
      case hyer10 => (intro w hSw; (try dsimp only at hSw); go_simp <;> with_reducible rfl)
      try simp only [Act.put, List.setIfInBounds_toArray, List.set_cons_zero, List.set_cons_succ]
      refine wpAnyH_take (i := 11) (oi := { dst := some 128, op := Op.fieldAddr 24 (Operand.tmp 14) 2, type := 0, pos := "law.go:96", after := _, guard := some (9, false) }) (v := ?ver11) rfl (by kernel_rfl) (by kernel_rfl) (by kernel_rfl) (fun _ _ _ h => h) (Or.inl ⟨by rfl, ?hyer11⟩) (by assumption) ?rester11
      case hyer11 => (intro w hSw; (try dsimp only at hSw); go_simp <;> with_reducible rfl)
      try simp only [Act.put, List.setIfInBounds_toArray, List.set_cons_zero, List.set_cons_succ]
      refine wpAnyH_take (i := 12) (oi := { dst := some 129, op := Op.load 22 (Operand.tmp 128), type := 22, pos := "law.go:96", after := _, guard := some (9, false) }) (v := ?ver12) rfl (by kernel_rfl) (by kernel_rfl) (by kernel_rfl) (fun _ _ _ h => h) (Or.inl ⟨by rfl, ?hyer12⟩) (by assumption) ?rester12
      case hyer12 => (intro w hSw; (try dsimp only at hSw); go_simp <;> with_reducible rfl)
      try simp only [Act.put, List.setIfInBounds_toArray, List.set_cons_zero, List.set_cons_succ]
      refine wpAnyH_take (i := 13) (oi := { dst := some 130, op := Op.call { callee := Callee.builtin Builtin.len, args := #[Operand.tmp 129], argTypes := #[22] }, type := 3, pos := "law.go:96", after := _, guard := some (9, false) }) (v := ?ver13) rfl (by kernel_rfl) (by kernel_rfl) (by kernel_rfl) (fun _ _ _ h => h) (Or.inl ⟨by rfl, ?hyer13⟩) (by assumption) ?rester13
      case hyer13 => (intro w hSw; (try dsimp only at hSw); go_simp <;> with_reducible rfl)
      try simp only [Act.put, List.setIfInBounds_toArray, List.set_cons_zero, List.set_cons_succ]
      refine wpAnyH_take (i := 14) (oi := { dst := some 131, op := Op.binOp BinOp.lss 3 (Operand.tmp 127) (Operand.tmp 130) 3, type := 4, pos := "law.go:96", after := _, guard := some (9, false) }) (v := ?ver14) rfl (by kernel_rfl) (by kernel_rfl) (by kernel_rfl) (fun _ _ _ h => h) (Or.inl ⟨by rfl, ?hyer14⟩) (by assumption) ?rester14
      case hyer14 => (intro w hSw; (try dsimp only at hSw); go_simp <;> with_reducible rfl)
      try simp only [Act.put, List.setIfInBounds_toArray, List.set_cons_zero, List.set_cons_succ]
      refine wpAnyH_take (i := 15) (oi := { dst := some 132, op := Op.move (Operand.tmp 131), type := 4, pos := "law.go:96", after := _, guard := some (9, false) }) (v := ?ver15) rfl (by kernel_rfl) (by kernel_rfl) (by kernel_rfl) (fun _ _ _ h => h) (Or.inl ⟨by rfl, ?hyer15⟩) (by assumption) ?rester15
      case hyer15 => (intro w hSw; (try dsimp only at hSw); go_simp <;> with_reducible rfl)
      try simp only [Act.put, List.setIfInBounds_toArray, List.set_cons_zero, List.set_cons_succ]
      refine wpAnyH_take (i := 16) (oi := { dst := some 133, op := Op.fieldAddr 24 (Operand.tmp 14) 2, type := 0, pos := "law.go:96", after := _, guard := some (15, true) }) (v := ?ver16) rfl (by kernel_rfl) (by kernel_rfl) (by kernel_rfl) (fun _ _ _ h => h) (Or.inl ⟨by rfl, ?hyer16⟩) (by assumption) ?rester16
      case hyer16 => (intro w hSw; (try dsimp only at hSw); go_simp <;> with_reducible rfl)
      try simp only [Act.put, List.setIfInBounds_toArray, List.set_cons_zero, List.set_cons_succ]
      refine wpAnyH_take (i := 17) (oi := { dst := some 134, op := Op.load 22 (Operand.tmp 133), type := 22, pos := "law.go:96", after := _, guard := some (15, true) }) (v := ?ver17) rfl (by kernel_rfl) (by kernel_rfl) (by kernel_rfl) (fun _ _ _ h => h) (Or.inl ⟨by rfl, ?hyer17⟩) (by assumption) ?rester17
      case hyer17 => (intro w hSw; (try dsimp only at hSw); go_simp <;> with_reducible rfl)
      try simp only [Act.put, List.setIfInBounds_toArray, List.set_cons_zero, List.set_cons_succ]
      refine wpAnyH_take (i := 18) (oi := { dst := some 135, op := Op.move (Operand.tmp 4), type := 3, pos := "law.go:96", after := _, guard := some (15, true) }) (v := ?ver18) rfl (by kernel_rfl) (by kernel_rfl) (by kernel_rfl) (fun _ _ _ h => h) (Or.inl ⟨by rfl, ?hyer18⟩) (by assumption) ?rester18
      case hyer18 => (intro w hSw; (try dsimp only at hSw); go_simp <;> with_reducible rfl)
      try simp only [Act.put, List.setIfInBounds_toArray, List.set_cons_zero, List.set_cons_succ]
      refine wpAnyH_take (i := 19) (oi := { dst := some 136, op := Op.indexAddr 22 (Operand.tmp 134) (Operand.tmp 135), type := 0, pos := "law.go:96", after := _, guard := some (15, true) }) (v := ?ver19) rfl (by kernel_rfl) (by kernel_rfl) (by kernel_rfl) (fun _ _ _ h => h) (Or.inl ⟨by rfl, ?hyer19⟩) (by assumption) ?rester19
      case hyer19 => (intro w hSw; (try dsimp only at hSw); go_simp <;> with_reducible rfl)
      try simp only [Act.put, List.setIfInBounds_toArray, List.set_cons_zero, List.set_cons_succ]
      refine wpAnyH_take (i := 20) (oi := { dst := some 137, op := Op.fieldAddr 40 (Operand.tmp 136) 0, type := 0, pos := "law.go:96", after := _, guard := some (15, true) }) (v := ?ver20) rfl (by kernel_rfl) (by kernel_rfl) (by kernel_rfl) (fun _ _ _ h => h) (Or.inl ⟨by rfl, ?hyer20⟩) (by assumption) ?rester20
      case hyer20 => (intro w hSw; (try dsimp only at hSw); go_simp <;> with_reducible rfl)
      try simp only [Act.put, List.setIfInBounds_toArray, List.set_cons_zero, List.set_cons_succ]
      refine wpAnyH_take (i := 21) (oi := { dst := some 138, op := Op.load 3 (Operand.tmp 137), type := 3, pos := "law.go:96", after := _, guard := some (15, true) }) (v := ?ver21) rfl (by kernel_rfl) (by kernel_rfl) (by kernel_rfl) (fun _ _ _ h => h) (Or.inl ⟨by rfl, ?hyer21⟩) (by assumption) ?rester21
      case hyer21 => (intro w hSw; (try dsimp only at hSw); go_simp <;> with_reducible rfl)
      try simp only [Act.put, List.setIfInBounds_toArray, List.set_cons_zero, List.set_cons_succ]
      refine wpAnyH_take (i := 22) (oi := { dst := some 139, op := Op.fieldAddr 24 (Operand.tmp 5) 2, type := 0, pos := "law.go:96", after := _, guard := some (15, true) }) (v := ?ver22) rfl (by kernel_rfl) (by kernel_rfl) (by kernel_rfl) (fun _ _ _ h => h) (Or.inl ⟨by rfl, ?hyer22⟩) (by assumption) ?rester22
      case hyer22 => (intro w hSw; (try dsimp only at hSw); go_simp <;> with_reducible rfl)
      try simp only [Act.put, List.setIfInBounds_toArray, List.set_cons_zero, List.set_cons_succ]
      refine wpAnyH_take (i := 23) (oi := { dst := some 140, op := Op.load 22 (Operand.tmp 139), type := 22, pos := "law.go:96", after := _, guard := some (15, true) }) (v := ?ver23) rfl (by kernel_rfl) (by kernel_rfl) (by kernel_rfl) (fun _ _ _ h => h) (Or.inl ⟨by rfl, ?hyer23⟩) (by assumption) ?rester23
      case hyer23 => (intro w hSw; (try dsimp only at hSw); go_simp <;> with_reducible rfl)
      try simp only [Act.put, List.setIfInBounds_toArray, List.set_cons_zero, List.set_cons_succ]
      refine wpAnyH_take (i := 24) (oi := { dst := some 141, op := Op.move (Operand.tmp 4), type := 3, pos := "law.go:96", after := _, guard := some (15, true) }) (v := ?ver24) rfl (by kernel_rfl) (by kernel_rfl) (by kernel_rfl) (fun _ _ _ h => h) (Or.inl ⟨by rfl, ?hyer24⟩) (by assumption) ?rester24
      case hyer24 => (intro w hSw; (try dsimp only at hSw); go_simp <;> with_reducible rfl)
      try simp only [Act.put, List.setIfInBounds_toArray, List.set_cons_zero, List.set_cons_succ]
      refine wpAnyH_take (i := 25) (oi := { dst := some 142, op := Op.indexAddr 22 (Operand.tmp 140) (Operand.tmp 141), type := 0, pos := "law.go:96", after := _, guard := some (15, true) }) (v := ?ver25) rfl (by kernel_rfl) (by kernel_rfl) (by kernel_rfl) (fun _ _ _ h => h) (Or.inl ⟨by rfl, ?hyer25⟩) (by assumption) ?rester25
      case hyer25 => (intro w hSw; (try dsimp only at hSw); go_simp <;> with_reducible rfl)
      try simp only [Act.put, List.setIfInBounds_toArray, List.set_cons_zero, List.set_cons_succ]
      refine wpAnyH_take (i := 26) (oi := { dst := some 143, op := Op.fieldAddr 40 (Operand.tmp 142) 0, type := 0, pos := "law.go:96", after := _, guard := some (15, true) }) (v := ?ver26) rfl (by kernel_rfl) (by kernel_rfl) (by kernel_rfl) (fun _ _ _ h => h) (Or.inl ⟨by rfl, ?hyer26⟩) (by assumption) ?rester26
      case hyer26 => (intro w hSw; (try dsimp only at hSw); go_simp <;> with_reducible rfl)
      try simp only [Act.put, List.setIfInBounds_toArray, List.set_cons_zero, List.set_cons_succ]
      refine wpAnyH_take (i := 27) (oi := { dst := some 144, op := Op.load 3 (Operand.tmp 143), type := 3, pos := "law.go:96", after := _, guard := some (15, true) }) (v := ?ver27) rfl (by kernel_rfl) (by kernel_rfl) (by kernel_rfl) (fun _ _ _ h => h) (Or.inl ⟨by rfl, ?hyer27⟩) (by assumption) ?rester27
      case hyer27 => (intro w hSw; (try dsimp only at hSw); go_simp <;> with_reducible rfl)
      try simp only [Act.put, List.setIfInBounds_toArray, List.set_cons_zero, List.set_cons_succ]
      refine wpAnyH_take (i := 28) (oi := { dst := some 145, op := Op.binOp BinOp.geq 3 (Operand.tmp 138) (Operand.tmp 144) 3, type := 4, pos := "law.go:96", after := _, guard := some (15, true) }) (v := ?ver28) rfl (by kernel_rfl) (by kernel_rfl) (by kernel_rfl) (fun _ _ _ h => h) (Or.inl ⟨by rfl, ?hyer28⟩) (by assumption) ?rester28
      case hyer28 => (intro w hSw; (try dsimp only at hSw); go_simp <;> with_reducible rfl)
      try simp only [Act.put, List.setIfInBounds_toArray, List.set_cons_zero, List.set_cons_succ]
      refine wpAnyH_take (i := 29) (oi := { dst := some 146, op := Op.pick (Operand.tmp 132) (Operand.tmp 145) (Operand.const (Value.bool false)), type := 4, pos := "law.go:96", after := _, guard := some (9, false) }) (v := ?ver29) rfl (by kernel_rfl) (by kernel_rfl) (by kernel_rfl) (fun _ _ _ h => h) (Or.inl ⟨by rfl, ?hyer29⟩) (by assumption) ?rester29
      case hyer29 => (intro w hSw; (try dsimp only at hSw); go_simp <;> with_reducible rfl)
      try simp only [Act.put, List.setIfInBounds_toArray, List.set_cons_zero, List.set_cons_succ]
      refine wpAnyH_take (i := 30) (oi := { dst := some 147, op := Op.move (Operand.tmp 146), type := 4, pos := "law.go:96", after := _, guard := some (9, false) }) (v := ?ver30) rfl (by kernel_rfl) (by kernel_rfl) (by kernel_rfl) (fun _ _ _ h => h) (Or.inl ⟨by rfl, ?hyer30⟩) (by assumption) ?rester30
      case hyer30 => (intro w hSw; (try dsimp only at hSw); go_simp <;> with_reducible rfl)
      try simp only [Act.put, List.setIfInBounds_toArray, List.set_cons_zero, List.set_cons_succ]
      refine wpAnyH_take (i := 31) (oi := { dst := some 148, op := Op.move (Operand.tmp 4), type := 3, pos := "law.go:96", after := _, guard := some (30, true) }) (v := ?ver31) rfl (by kernel_rfl) (by kernel_rfl) (by kernel_rfl) (fun _ _ _ h => h) (Or.inl ⟨by rfl, ?hyer31⟩) (by assumption) ?rester31
      case hyer31 => (intro w hSw; (try dsimp only at hSw); go_simp <;> with_reducible rfl)
      try simp only [Act.put, List.setIfInBounds_toArray, List.set_cons_zero, List.set_cons_succ]
      refine wpAnyH_take (i := 32) (oi := { dst := some 149, op := Op.move (Operand.tmp 1), type := 3, pos := "law.go:96", after := _, guard := some (30, true) }) (v := ?ver32) rfl (by kernel_rfl) (by kernel_rfl) (by kernel_rfl) (fun _ _ _ h => h) (Or.inl ⟨by rfl, ?hyer32⟩) (by assumption) ?rester32
      case hyer32 => (intro w hSw; (try dsimp only at hSw); go_simp <;> with_reducible rfl)
      try simp only [Act.put, List.setIfInBounds_toArray, List.set_cons_zero, List.set_cons_succ]
      refine wpAnyH_take (i := 33) (oi := { dst := some 150, op := Op.binOp BinOp.eql 3 (Operand.tmp 148) (Operand.tmp 149) 3, type := 4, pos := "law.go:96", after := _, guard := some (30, true) }) (v := ?ver33) rfl (by kernel_rfl) (by kernel_rfl) (by kernel_rfl) (fun _ _ _ h => h) (Or.inl ⟨by rfl, ?hyer33⟩) (by assumption) ?rester33
      case hyer33 => (intro w hSw; (try dsimp only at hSw); go_simp <;> with_reducible rfl)
      try simp only [Act.put, List.setIfInBounds_toArray, List.set_cons_zero, List.set_cons_succ]
      refine wpAnyH_take (i := 34) (oi := { dst := some 151, op := Op.move (Operand.tmp 150), type := 4, pos := "law.go:96", after := _, guard := some (30, true) }) (v := ?ver34) rfl (by kernel_rfl) (by kernel_rfl) (by kernel_rfl) (fun _ _ _ h => h) (Or.inl ⟨by rfl, ?hyer34⟩) (by assumption) ?rester34
      case hyer34 => (intro w hSw; (try dsimp only at hSw); go_simp <;> with_reducible rfl)
      try simp only [Act.put, List.setIfInBounds_toArray, List.set_cons_zero, List.set_cons_succ]
      refine wpAnyH_take (i := 35) (oi := { dst := some 152, op := Op.fieldAddr 24 (Operand.tmp 14) 2, type := 0, pos := "law.go:96", after := _, guard := some (34, false) }) (v := ?ver35) rfl (by kernel_rfl) (by kernel_rfl) (by kernel_rfl) (fun _ _ _ h => h) (Or.inl ⟨by rfl, ?hyer35⟩) (by assumption) ?rester35
      case hyer35 => (intro w hSw; (try dsimp only at hSw); go_simp <;> with_reducible rfl)
      try simp only [Act.put, List.setIfInBounds_toArray, List.set_cons_zero, List.set_cons_succ]
      refine wpAnyH_take (i := 36) (oi := { dst := some 153, op := Op.load 22 (Operand.tmp 152), type := 22, pos := "law.go:96", after := _, guard := some (34, false) }) (v := ?ver36) rfl (by kernel_rfl) (by kernel_rfl) (by kernel_rfl) (fun _ _ _ h => h) (Or.inl ⟨by rfl, ?hyer36⟩) (by assumption) ?rester36
      case hyer36 => (intro w hSw; (try dsimp only at hSw); go_simp <;> with_reducible rfl)
      try simp only [Act.put, List.setIfInBounds_toArray, List.set_cons_zero, List.set_cons_succ]
      refine wpAnyH_take (i := 37) (oi := { dst := some 154, op := Op.move (Operand.tmp 4), type := 3, pos := "law.go:96", after := _, guard := some (34, false) }) (v := ?ver37) rfl (by kernel_rfl) (by kernel_rfl) (by kernel_rfl) (fun _ _ _ h => h) (Or.inl ⟨by rfl, ?hyer37⟩) (by assumption) ?rester37
      case hyer37 => (intro w hSw; (try dsimp only at hSw); go_simp <;> with_reducible rfl)
      try simp only [Act.put, List.setIfInBounds_toArray, List.set_cons_zero, List.set_cons_succ]
      refine wpAnyH_take (i := 38) (oi := { dst := some 155, op := Op.indexAddr 22 (Operand.tmp 153) (Operand.tmp 154), type := 0, pos := "law.go:96", after := _, guard := some (34, false) }) (v := ?ver38) rfl (by kernel_rfl) (by kernel_rfl) (by kernel_rfl) (fun _ _ _ h => h) (Or.inl ⟨by rfl, ?hyer38⟩) (by assumption) ?rester38
      case hyer38 => (intro w hSw; (try dsimp only at hSw); go_simp <;> with_reducible rfl)
      try simp only [Act.put, List.setIfInBounds_toArray, List.set_cons_zero, List.set_cons_succ]
      refine wpAnyH_take (i := 39) (oi := { dst := some 156, op := Op.load 40 (Operand.tmp 155), type := 40, pos := "law.go:96", after := _, guard := some (34, false) }) (v := ?ver39) rfl (by kernel_rfl) (by kernel_rfl) (by kernel_rfl) (fun _ _ _ h => h) (Or.inl ⟨by rfl, ?hyer39⟩) (by assumption) ?rester39
      case hyer39 => (intro w hSw; (try dsimp only at hSw); go_simp <;> with_reducible rfl)
      try simp only [Act.put, List.setIfInBounds_toArray, List.set_cons_zero, List.set_cons_succ]
      refine wpAnyH_take (i := 40) (oi := { dst := some 157, op := Op.fieldAddr 24 (Operand.tmp 5) 2, type := 0, pos := "law.go:96", after := _, guard := some (34, false) }) (v := ?ver40) rfl (by kernel_rfl) (by kernel_rfl) (by kernel_rfl) (fun _ _ _ h => h) (Or.inl ⟨by rfl, ?hyer40⟩) (by assumption) ?rester40
      case hyer40 => (intro w hSw; (try dsimp only at hSw); go_simp <;> with_reducible rfl)
      try simp only [Act.put, List.setIfInBounds_toArray, List.set_cons_zero, List.set_cons_succ]
      refine wpAnyH_take (i := 41) (oi := { dst := some 158, op := Op.load 22 (Operand.tmp 157), type := 22, pos := "law.go:96", after := _, guard := some (34, false) }) (v := ?ver41) rfl (by kernel_rfl) (by kernel_rfl) (by kernel_rfl) (fun _ _ _ h => h) (Or.inl ⟨by rfl, ?hyer41⟩) (by assumption) ?rester41
      case hyer41 => (intro w hSw; (try dsimp only at hSw); go_simp <;> with_reducible rfl)
      try simp only [Act.put, List.setIfInBounds_toArray, List.set_cons_zero, List.set_cons_succ]
      refine wpAnyH_take (i := 42) (oi := { dst := some 159, op := Op.move (Operand.tmp 4), type := 3, pos := "law.go:96", after := _, guard := some (34, false) }) (v := ?ver42) rfl (by kernel_rfl) (by kernel_rfl) (by kernel_rfl) (fun _ _ _ h => h) (Or.inl ⟨by rfl, ?hyer42⟩) (by assumption) ?rester42
      case hyer42 => (intro w hSw; (try dsimp only at hSw); go_simp <;> with_reducible rfl)
      try simp only [Act.put, List.setIfInBounds_toArray, List.set_cons_zero, List.set_cons_succ]
      refine wpAnyH_take (i := 43) (oi := { dst := some 160, op := Op.indexAddr 22 (Operand.tmp 158) (Operand.tmp 159), type := 0, pos := "law.go:96", after := _, guard := some (34, false) }) (v := ?ver43) rfl (by kernel_rfl) (by kernel_rfl) (by kernel_rfl) (fun _ _ _ h => h) (Or.inl ⟨by rfl, ?hyer43⟩) (by assumption) ?rester43
      case hyer43 => (intro w hSw; (try dsimp only at hSw); go_simp <;> with_reducible rfl)
      try simp only [Act.put, List.setIfInBounds_toArray, List.set_cons_zero, List.set_cons_succ]
      refine wpAnyH_take (i := 44) (oi := { dst := some 161, op := Op.load 40 (Operand.tmp 160), type := 40, pos := "law.go:96", after := _, guard := some (34, false) }) (v := ?ver44) rfl (by kernel_rfl) (by kernel_rfl) (by kernel_rfl) (fun _ _ _ h => h) (Or.inl ⟨by rfl, ?hyer44⟩) (by assumption) ?rester44
      case hyer44 => (intro w hSw; (try dsimp only at hSw); go_simp <;> with_reducible rfl)
      try simp only [Act.put, List.setIfInBounds_toArray, List.set_cons_zero, List.set_cons_succ]
      refine wpAnyH_take (i := 45) (oi := { dst := some 162, op := Op.binOp BinOp.eql 40 (Operand.tmp 156) (Operand.tmp 161) 40, type := 4, pos := "law.go:96", after := _, guard := some (34, false) }) (v := ?ver45) rfl (by kernel_rfl) (by kernel_rfl) (by kernel_rfl) (fun _ _ _ h => h) (Or.inl ⟨by rfl, ?hyer45⟩) (by assumption) ?rester45
      case hyer45 => (intro w hSw; (try dsimp only at hSw); go_simp <;> with_reducible rfl)
      try simp only [Act.put, List.setIfInBounds_toArray, List.set_cons_zero, List.set_cons_succ]
      refine wpAnyH_take (i := 46) (oi := { dst := some 163, op := Op.move (Operand.tmp 162), type := 4, pos := "law.go:96", after := _, guard := some (34, false) }) (v := ?ver46) rfl (by kernel_rfl) (by kernel_rfl) (by kernel_rfl) (fun _ _ _ h => h) (Or.inl ⟨by rfl, ?hyer46⟩) (by assumption) ?rester46
      case hyer46 => (intro w hSw; (try dsimp only at hSw); go_simp <;> with_reducible rfl)
      try simp only [Act.put, List.setIfInBounds_toArray, List.set_cons_zero, List.set_cons_succ]
      refine wpAnyH_take (i := 47) (oi := { dst := some 164, op := Op.fieldAddr 24 (Operand.tmp 12) 2, type := 0, pos := "law.go:96", after := _, guard := some (46, true) }) (v := ?ver47) rfl (by kernel_rfl) (by kernel_rfl) (by kernel_rfl) (fun _ _ _ h => h) (Or.inl ⟨by rfl, ?hyer47⟩) (by assumption) ?rester47
      case hyer47 => (intro w hSw; (try dsimp only at hSw); go_simp <;> with_reducible rfl)
      try simp only [Act.put, List.setIfInBounds_toArray, List.set_cons_zero, List.set_cons_succ]
      refine wpAnyH_take (i := 48) (oi := { dst := some 165, op := Op.load 22 (Operand.tmp 164), type := 22, pos := "law.go:96", after := _, guard := some (46, true) }) (v := ?ver48) rfl (by kernel_rfl) (by kernel_rfl) (by kernel_rfl) (fun _ _ _ h => h) (Or.inl ⟨by rfl, ?hyer48⟩) (by assumption) ?rester48
      case hyer48 => (intro w hSw; (try dsimp only at hSw); go_simp <;> with_reducible rfl)
      try simp only [Act.put, List.setIfInBounds_toArray, List.set_cons_zero, List.set_cons_succ]
      refine wpAnyH_take (i := 49) (oi := { dst := some 166, op := Op.move (Operand.tmp 4), type := 3, pos := "law.go:96", after := _, guard := some (46, true) }) (v := ?ver49) rfl (by kernel_rfl) (by kernel_rfl) (by kernel_rfl) (fun _ _ _ h => h) (Or.inl ⟨by rfl, ?hyer49⟩) (by assumption) ?rester49
      case hyer49 => (intro w hSw; (try dsimp only at hSw); go_simp <;> with_reducible rfl)
      try simp only [Act.put, List.setIfInBounds_toArray, List.set_cons_zero, List.set_cons_succ]
      refine wpAnyH_take (i := 50) (oi := { dst := some 167, op := Op.indexAddr 22 (Operand.tmp 165) (Operand.tmp 166), type := 0, pos := "law.go:96", after := _, guard := some (46, true) }) (v := ?ver50) rfl (by kernel_rfl) (by kernel_rfl) (by kernel_rfl) (fun _ _ _ h => h) (Or.inl ⟨by rfl, ?hyer50⟩) (by assumption) ?rester50
      case hyer50 => (intro w hSw; (try dsimp only at hSw); go_simp <;> with_reducible rfl)
      try simp only [Act.put, List.setIfInBounds_toArray, List.set_cons_zero, List.set_cons_succ]
      refine wpAnyH_take (i := 51) (oi := { dst := some 168, op := Op.load 40 (Operand.tmp 167), type := 40, pos := "law.go:96", after := _, guard := some (46, true) }) (v := ?ver51) rfl (by kernel_rfl) (by kernel_rfl) (by kernel_rfl) (fun _ _ _ h => h) (Or.inl ⟨by rfl, ?hyer51⟩) (by assumption) ?rester51
      case hyer51 => (intro w hSw; (try dsimp only at hSw); go_simp <;> with_reducible rfl)
      try simp only [Act.put, List.setIfInBounds_toArray, List.set_cons_zero, List.set_cons_succ]
      refine wpAnyH_take (i := 52) (oi := { dst := some 169, op := Op.fieldAddr 24 (Operand.tmp 5) 2, type := 0, pos := "law.go:96", after := _, guard := some (46, true) }) (v := ?ver52) rfl (by kernel_rfl) (by kernel_rfl) (by kernel_rfl) (fun _ _ _ h => h) (Or.inl ⟨by rfl, ?hyer52⟩) (by assumption) ?rester52
      case hyer52 => (intro w hSw; (try dsimp only at hSw); go_simp <;> with_reducible rfl)
      try simp only [Act.put, List.setIfInBounds_toArray, List.set_cons_zero, List.set_cons_succ]
      refine wpAnyH_take (i := 53) (oi := { dst := some 170, op := Op.load 22 (Operand.tmp 169), type := 22, pos := "law.go:96", after := _, guard := some (46, true) }) (v := ?ver53) rfl (by kernel_rfl) (by kernel_rfl) (by kernel_rfl) (fun _ _ _ h => h) (Or.inl ⟨by rfl, ?hyer53⟩) (by assumption) ?rester53
      case hyer53 => (intro w hSw; (try dsimp only at hSw); go_simp <;> with_reducible rfl)
      try simp only [Act.put, List.setIfInBounds_toArray, List.set_cons_zero, List.set_cons_succ]
      refine wpAnyH_take (i := 54) (oi := { dst := some 171, op := Op.move (Operand.tmp 4), type := 3, pos := "law.go:96", after := _, guard := some (46, true) }) (v := ?ver54) rfl (by kernel_rfl) (by kernel_rfl) (by kernel_rfl) (fun _ _ _ h => h) (Or.inl ⟨by rfl, ?hyer54⟩) (by assumption) ?rester54
      case hyer54 => (intro w hSw; (try dsimp only at hSw); go_simp <;> with_reducible rfl)
      try simp only [Act.put, List.setIfInBounds_toArray, List.set_cons_zero, List.set_cons_succ]
      refine wpAnyH_take (i := 55) (oi := { dst := some 172, op := Op.indexAddr 22 (Operand.tmp 170) (Operand.tmp 171), type := 0, pos := "law.go:96", after := _, guard := some (46, true) }) (v := ?ver55) rfl (by kernel_rfl) (by kernel_rfl) (by kernel_rfl) (fun _ _ _ h => h) (Or.inl ⟨by rfl, ?hyer55⟩) (by assumption) ?rester55
      case hyer55 => (intro w hSw; (try dsimp only at hSw); go_simp <;> with_reducible rfl)
      try simp only [Act.put, List.setIfInBounds_toArray, List.set_cons_zero, List.set_cons_succ]
      refine wpAnyH_take (i := 56) (oi := { dst := some 173, op := Op.load 40 (Operand.tmp 172), type := 40, pos := "law.go:96", after := _, guard := some (46, true) }) (v := ?ver56) rfl (by kernel_rfl) (by kernel_rfl) (by kernel_rfl) (fun _ _ _ h => h) (Or.inl ⟨by rfl, ?hyer56⟩) (by assumption) ?rester56
      case hyer56 => (intro w hSw; (try dsimp only at hSw); go_simp <;> with_reducible rfl)
      try simp only [Act.put, List.setIfInBounds_toArray, List.set_cons_zero, List.set_cons_succ]
      refine wpAnyH_take (i := 57) (oi := { dst := some 174, op := Op.binOp BinOp.eql 40 (Operand.tmp 168) (Operand.tmp 173) 40, type := 4, pos := "law.go:96", after := _, guard := some (46, true) }) (v := ?ver57) rfl (by kernel_rfl) (by kernel_rfl) (by kernel_rfl) (fun _ _ _ h => h) (Or.inl ⟨by rfl, ?hyer57⟩) (by assumption) ?rester57
      case hyer57 => (intro w hSw; (try dsimp only at hSw); go_simp <;> with_reducible rfl)
      try simp only [Act.put, List.setIfInBounds_toArray, List.set_cons_zero, List.set_cons_succ]
      refine wpAnyH_take (i := 58) (oi := { dst := some 175, op := Op.pick (Operand.tmp 163) (Operand.tmp 174) (Operand.const (Value.bool false)), type := 4, pos := "law.go:96", after := _, guard := some (34, false) }) (v := ?ver58) rfl (by kernel_rfl) (by kernel_rfl) (by kernel_rfl) (fun _ _ _ h => h) (Or.inl ⟨by rfl, ?hyer58⟩) (by assumption) ?rester58
      case hyer58 => (intro w hSw; (try dsimp only at hSw); go_simp <;> with_reducible rfl)
      try simp only [Act.put, List.setIfInBounds_toArray, List.set_cons_zero, List.set_cons_succ]
      refine wpAnyH_take (i := 59) (oi := { dst := some 176, op := Op.pick (Operand.tmp 151) (Operand.const (Value.bool true)) (Operand.tmp 175), type := 4, pos := "law.go:96", after := _, guard := some (30, true) }) (v := ?ver59) rfl (by kernel_rfl) (by kernel_rfl) (by kernel_rfl) (fun _ _ _ h => h) (Or.inl ⟨by rfl, ?hyer59⟩) (by assumption) ?rester59
      case hyer59 => (intro w hSw; (try dsimp only at hSw); go_simp <;> with_reducible rfl)
      try simp only [Act.put, List.setIfInBounds_toArray, List.set_cons_zero, List.set_cons_succ]
      refine wpAnyH_take (i := 60) (oi := { dst := some 177, op := Op.pick (Operand.tmp 147) (Operand.tmp 176) (Operand.const (Value.bool false)), type := 4, pos := "law.go:96", after := _, guard := some (9, false) }) (v := ?ver60) rfl (by kernel_rfl) (by kernel_rfl) (by kernel_rfl) (fun _ _ _ h => h) (Or.inl ⟨by rfl, ?hyer60⟩) (by assumption) ?rester60
      case hyer60 => (intro w hSw; (try dsimp only at hSw); go_simp <;> with_reducible rfl)
      try simp only [Act.put, List.setIfInBounds_toArray, List.set_cons_zero, List.set_cons_succ]
      refine wpAnyH_ready (rs := [61]) (by kernel_rfl) (by simp) ?_
      refine AllReadyH.cons (o := { dst := some 178, op := Op.pick (Operand.tmp 126) (Operand.const (Value.bool true)) (Operand.tmp 177), type := 4, pos := "law.go:96", after := _, guard := none }) rfl (fun K hK => ?_) AllReadyH.nil
      go_simp
      skip
      refine hK.out _ _ ?_ (fun hHelder61 => ?_)
      · exact ⟨(BW.cell (p := ⟨w.heap.size, 2, none⟩) ckC_lt).trans ckC_2, (BW.cell (p := ⟨w3.heap.size, 2, none⟩) ckA_lt).trans ckA_2, (BW.cell (p := ⟨w4.heap.size, 2, none⟩) ckB_lt).trans ckB_2, (BW.cell (p := ⟨b0, o0 + n * 2, none⟩) hlt0).trans e00, (BW.cell (p := ⟨b0, o0 + n * 2 + 1, none⟩) hlt0).trans e01, (BW.cell (p := ⟨bA, oA + n * 2, none⟩) hltA).trans eA0, (BW.cell (p := ⟨bA, oA + n * 2 + 1, none⟩) hltA).trans eA1, (BW.cell (p := ⟨bB, oB + n * 2, none⟩) hltB).trans eB0, (BW.cell (p := ⟨bB, oB + n * 2 + 1, none⟩) hltB).trans eB1⟩
      clear hK K hHelder
      try simp only [Act.put, List.setIfInBounds_toArray, List.set_cons_zero, List.set_cons_succ]
      refine wpAnyH_ready (rs := [62]) (by kernel_rfl) (by simp) ?_
      refine AllReadyH.cons (o := { dst := some 10, op := Op.assign (Operand.tmp 178), type := 4, pos := "law.go:96", after := _, guard := none }) rfl (fun K hK => ?_) AllReadyH.nil
      go_simp
      skip
      refine hK.out _ _ ?_ (fun hHelder62 => ?_)
      · exact ⟨(BW.cell (p := ⟨w.heap.size, 2, none⟩) ckC_lt).trans ckC_2, (BW.cell (p := ⟨w3.heap.size, 2, none⟩) ckA_lt).trans ckA_2, (BW.cell (p := ⟨w4.heap.size, 2, none⟩) ckB_lt).trans ckB_2, (BW.cell (p := ⟨b0, o0 + n * 2, none⟩) hlt0).trans e00, (BW.cell (p := ⟨b0, o0 + n * 2 + 1, none⟩) hlt0).trans e01, (BW.cell (p := ⟨bA, oA + n * 2, none⟩) hltA).trans eA0, (BW.cell (p := ⟨bA, oA + n * 2 + 1, none⟩) hltA).trans eA1, (BW.cell (p := ⟨bB, oB + n * 2, none⟩) hltB).trans eB0, (BW.cell (p := ⟨bB, oB + n * 2 + 1, none⟩) hltB).trans eB1⟩
      clear hK K hHelder61
      try simp only [Act.put, List.setIfInBounds_toArray, List.set_cons_zero, List.set_cons_succ]
      refine wpAnyH_done (by kernel_rfl) ?_ _
      go_wp2
      go_ret
      exact ⟨rfl, hY10.drew⟩

end Go.Proofs.Ytkmdifngljdpeaa
