/- awake of layer 18: the chapter's example. -/
import Derived.Test.YtkmdifngljdpeaaLkTick
namespace Go.Proofs.Ytkmdifngljdpeaa
open Go Go.RowKit
set_option linter.unusedVariables false

set_option maxRecDepth 100000 in
set_option maxHeartbeats 4000000 in
theorem awake_any (w : World) : Calls Try.prog 10 #[] w fun e w' => e = .returned (.bool true) ∧ Below w.heap.size w w' := by
  have cN : ∀ W : World, Calls Try.prog 17 #[.int .i64 2, .int .i64 5] W fun e w' => ∃ v', e = .returned (.tuple #[v', .bool true]) ∧ LkO w' W.heap.size v' 0 5 [⟨0, -1⟩, ⟨0, -1⟩] ∧ Below W.heap.size W w' :=
    fun W => LNew_yes 2 5 W (by omega) (by omega) (by omega) (by omega)
  have cA := fun v W hs => Take_any v 0 5 1 0 [⟨0, -1⟩, ⟨0, -1⟩] W hs (by simp)
  rw [show takeL 0 5 [⟨0, -1⟩, ⟨0, -1⟩] 1 0 = (0, [⟨0, -1⟩, ⟨0, 0⟩]) from rfl] at cA
  have cB := fun v W hs => Tick_any v 0 5 [⟨0, -1⟩, ⟨0, 0⟩] W hs (by simp)
  rw [show tickL 0 5 [⟨0, -1⟩, ⟨0, 0⟩] = (1, 1, 0) from rfl] at cB
  have cD := fun v W hs => Give_any v 1 5 1 0 1 [⟨0, -1⟩, ⟨0, 0⟩] W hs (by simp)
  rw [show giveL 1 5 [⟨0, -1⟩, ⟨0, 0⟩] 1 0 1 = (0, [⟨0, -1⟩, ⟨1, -1⟩]) from rfl] at cD
  have s1 := fun v W hs => Sees_any v 0 5 1 9 1 [⟨0, -1⟩, ⟨0, 0⟩] W hs
  rw [show seesL 0 5 [⟨0, -1⟩, ⟨0, 0⟩] 1 9 1 = false from rfl] at s1
  have s2 := fun v W hs => Sees_any v 0 5 1 9 0 [⟨0, -1⟩, ⟨0, 0⟩] W hs
  rw [show seesL 0 5 [⟨0, -1⟩, ⟨0, 0⟩] 1 9 0 = true from rfl] at s2
  have mD := fun sv W h => lmay_any 1 5 sv [⟨0, -1⟩, ⟨1, -1⟩] W h
  rw [show mayL 1 5 [⟨0, -1⟩, ⟨1, -1⟩] = true from rfl] at mD
  have sm := fun v1 v2 W h1 h2 => LSame_any v1 v2 1 5 1 5 [⟨0, -1⟩, ⟨1, -1⟩] [⟨0, -1⟩, ⟨1, -1⟩] W h1 h2
  rw [show sameL 1 5 [⟨0, -1⟩, ⟨1, -1⟩] 1 5 [⟨0, -1⟩, ⟨1, -1⟩] = true from rfl] at sm
  go_enter Try.func10, Try.ntmps10
  have hZ0 : Below w.heap.size w w := Below.refl w.heap.size w
  go_wp2_with fail
  refine (cN _).mono ?_
  rintro e w1 ⟨v1, rfl, hstC, hb1⟩
  obtain ⟨hc1, hf1⟩ := bcell hb1
  have hz1 := hb1.size
  have hY1 := hZ0.trans (hb1.mono hZ0.size)
  replace hstC := hstC.to
  obtain ⟨AC, dC, rfl, hstC⟩ := hstC.form
  simp only [List.length_cons, List.length_nil, Nat.zero_add, Nat.reduceAdd] at hstC ⊢
  have hA1 := ((Below.refl w1.heap.size w1).alloc (Nat.le_refl _) (.cells #[.int .i64 0, .int .i64 5, .slice AC 2 dC] 24))
  replace hstC := hstC.keep hA1
  have kC := Blk.new_ w1 24 #[.int .i64 0, .int .i64 5, .slice AC 2 dC] (w1.heap.size) (by simp)
  have hZ1 : Below w.heap.size w _ := hY1.trans (hA1.mono hY1.size)
  go_wp2_with fail
  refine (cA _ _ hstC).mono ?_
  rintro e w2 ⟨v2, rfl, hstA, hb2⟩
  obtain ⟨hc2, hf2⟩ := bcell hb2
  have hz2 := hb2.size
  simp at hz2
  replace hstC := hstC.keep hb2
  replace kC := kC.keep hb2
  have hY2 := hZ1.trans (hb2.mono hZ1.size)
  have zkC_2 : w1.heap.size < w2.heap.size := by omega
  replace hstA := hstA.to
  obtain ⟨AA, dA, rfl, hstA⟩ := hstA.form
  simp only [List.length_cons, List.length_nil, Nat.zero_add, Nat.reduceAdd] at hstA ⊢
  have hA2 := ((Below.refl w2.heap.size w2).alloc (Nat.le_refl _) (.cells #[.int .i64 0, .int .i64 5, .slice AA 2 dA] 24))
  replace hstC := hstC.keep hA2
  replace kC := kC.keep hA2
  replace hstA := hstA.keep hA2
  have kA := Blk.new_ w2 24 #[.int .i64 0, .int .i64 5, .slice AA 2 dA] (w2.heap.size) (by simp)
  have hZ2 : Below w.heap.size w _ := hY2.trans (hA2.mono hY2.size)
  go_wp2_with fail
  refine (cB _ _ hstA).mono ?_
  rintro e w3 ⟨v3, rfl, hstB, hb3⟩
  obtain ⟨hc3, hf3⟩ := bcell hb3
  have hz3 := hb3.size
  simp at hz3
  replace hstC := hstC.keep hb3
  replace kC := kC.keep hb3
  replace hstA := hstA.keep hb3
  replace kA := kA.keep hb3
  have hY3 := hZ2.trans (hb3.mono hZ2.size)
  have zkC_3 : w1.heap.size < w3.heap.size := by omega
  have zkA_3 : w2.heap.size < w3.heap.size := by omega
  replace hstB := hstB.to
  obtain ⟨AB, dB, rfl, hstB⟩ := hstB.form
  simp only [List.length_cons, List.length_nil, Nat.zero_add, Nat.reduceAdd] at hstB ⊢
  have hA3 := ((Below.refl w3.heap.size w3).alloc (Nat.le_refl _) (.cells #[.int .i64 1, .int .i64 5, .slice AB 2 dB] 24))
  replace hstC := hstC.keep hA3
  replace kC := kC.keep hA3
  replace hstA := hstA.keep hA3
  replace kA := kA.keep hA3
  replace hstB := hstB.keep hA3
  have kB := Blk.new_ w3 24 #[.int .i64 1, .int .i64 5, .slice AB 2 dB] (w3.heap.size) (by simp)
  have hZ3 : Below w.heap.size w _ := hY3.trans (hA3.mono hY3.size)
  go_wp2_with fail
  refine (cD _ _ hstB).mono ?_
  rintro e w4 ⟨v4, rfl, hstD, hb4⟩
  obtain ⟨hc4, hf4⟩ := bcell hb4
  have hz4 := hb4.size
  simp at hz4
  replace hstC := hstC.keep hb4
  replace kC := kC.keep hb4
  replace hstA := hstA.keep hb4
  replace kA := kA.keep hb4
  replace hstB := hstB.keep hb4
  replace kB := kB.keep hb4
  have hY4 := hZ3.trans (hb4.mono hZ3.size)
  have zkC_4 : w1.heap.size < w4.heap.size := by omega
  have zkA_4 : w2.heap.size < w4.heap.size := by omega
  have zkB_4 : w3.heap.size < w4.heap.size := by omega
  replace hstD := hstD.to
  obtain ⟨AD, dD, rfl, hstD⟩ := hstD.form
  simp only [List.length_cons, List.length_nil, Nat.zero_add, Nat.reduceAdd] at hstD ⊢
  have hA4 := ((Below.refl w4.heap.size w4).alloc (Nat.le_refl _) (.cells #[.int .i64 1, .int .i64 5, .slice AD 2 dD] 24))
  replace hstC := hstC.keep hA4
  replace kC := kC.keep hA4
  replace hstA := hstA.keep hA4
  replace kA := kA.keep hA4
  replace hstB := hstB.keep hA4
  replace kB := kB.keep hA4
  replace hstD := hstD.keep hA4
  have kD := Blk.new_ w4 24 #[.int .i64 1, .int .i64 5, .slice AD 2 dD] (w4.heap.size) (by simp)
  have hZ4 : Below w.heap.size w _ := hY4.trans (hA4.mono hY4.size)
  go_wp2_with fail
  refine (s1 _ _ hstA).mono ?_
  rintro e w5 ⟨rfl, hb5⟩
  obtain ⟨hc5, hf5⟩ := bcell hb5
  have hz5 := hb5.size
  simp at hz5
  replace hstC := hstC.keep hb5
  replace kC := kC.keep hb5
  replace hstA := hstA.keep hb5
  replace kA := kA.keep hb5
  replace hstB := hstB.keep hb5
  replace kB := kB.keep hb5
  replace hstD := hstD.keep hb5
  replace kD := kD.keep hb5
  have hY5 := hZ4.trans (hb5.mono hZ4.size)
  have zkC_5 : w1.heap.size < w5.heap.size := by omega
  have zkA_5 : w2.heap.size < w5.heap.size := by omega
  have zkB_5 : w3.heap.size < w5.heap.size := by omega
  have zkD_5 : w4.heap.size < w5.heap.size := by omega
  have hZ5 : Below w.heap.size w w5 := hY5
  go_wp2_with fail
  refine (s2 _ _ hstA).mono ?_
  rintro e w6 ⟨rfl, hb6⟩
  obtain ⟨hc6, hf6⟩ := bcell hb6
  have hz6 := hb6.size
  replace hstC := hstC.keep hb6
  replace kC := kC.keep hb6
  replace hstA := hstA.keep hb6
  replace kA := kA.keep hb6
  replace hstB := hstB.keep hb6
  replace kB := kB.keep hb6
  replace hstD := hstD.keep hb6
  replace kD := kD.keep hb6
  have hY6 := hZ5.trans (hb6.mono hZ5.size)
  have zkC_6 : w1.heap.size < w6.heap.size := by omega
  have zkA_6 : w2.heap.size < w6.heap.size := by omega
  have zkB_6 : w3.heap.size < w6.heap.size := by omega
  have zkD_6 : w4.heap.size < w6.heap.size := by omega
  obtain ⟨bD, oD, rfl, hltD, helD⟩ := Sl.pos encL encL_len hstD.sl (by simp)
  have gD0 := helD _ (Below.refl _ _) 1 (by simp) 0 _ rfl
  have gD1 := helD _ (Below.refl _ _) 1 (by simp) 1 _ rfl
  clear helD
  simp at gD0 gD1
  have hZ6 : Below w.heap.size w w6 := hY6
  go_wp2_with fail
  refine (mD _ _ hstD.sl).mono ?_
  rintro e w7 ⟨rfl, hb7⟩
  obtain ⟨hc7, hf7⟩ := bcell hb7
  have hz7 := hb7.size
  replace hstC := hstC.keep hb7
  replace kC := kC.keep hb7
  replace hstA := hstA.keep hb7
  replace kA := kA.keep hb7
  replace hstB := hstB.keep hb7
  replace kB := kB.keep hb7
  replace hstD := hstD.keep hb7
  replace kD := kD.keep hb7
  have hY7 := hZ6.trans (hb7.mono hZ6.size)
  have zkC_7 : w1.heap.size < w7.heap.size := by omega
  have zkA_7 : w2.heap.size < w7.heap.size := by omega
  have zkB_7 : w3.heap.size < w7.heap.size := by omega
  have zkD_7 : w4.heap.size < w7.heap.size := by omega
  have hZ7 : Below w.heap.size w w7 := hY7
  go_wp2_with fail
  refine (sm _ _ _ hstD hstD).mono ?_
  rintro e w8 ⟨rfl, hb8⟩
  obtain ⟨hc8, hf8⟩ := bcell hb8
  have hz8 := hb8.size
  replace hstC := hstC.keep hb8
  replace kC := kC.keep hb8
  replace hstA := hstA.keep hb8
  replace kA := kA.keep hb8
  replace hstB := hstB.keep hb8
  replace kB := kB.keep hb8
  replace hstD := hstD.keep hb8
  replace kD := kD.keep hb8
  have hY8 := hZ7.trans (hb8.mono hZ7.size)
  have zkC_8 : w1.heap.size < w8.heap.size := by omega
  have zkA_8 : w2.heap.size < w8.heap.size := by omega
  have zkB_8 : w3.heap.size < w8.heap.size := by omega
  have zkD_8 : w4.heap.size < w8.heap.size := by omega
  go_wp2
  go_ret
  exact ⟨rfl, hY8⟩
end Go.Proofs.Ytkmdifngljdpeaa
