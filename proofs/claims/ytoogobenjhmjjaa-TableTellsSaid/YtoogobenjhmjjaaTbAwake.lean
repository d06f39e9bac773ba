/- awake of foliatelaw17. -/
import Derived.Test.YtoogobenjhmjjaaTbFew
namespace Go.Proofs.Ytoogobenjhmjjaa
open Go Go.RowKit
set_option linter.unusedVariables false

def tp1 : List Pg := [⟨1, 0, 7, 0, 0⟩]
def tp2 : List Pg := [⟨2, 0, 7, 0, 0⟩]
def tp3 : List Pg := [⟨1, 0, 7, 0, 0⟩, ⟨1, 0, 8, 0, 0⟩]
def tt0 : List (List Int) := [[-1, -1, -1, -1]]
def tt1 : List (List Int) := [[-1, 0, -1, -1]]
def tt2 : List (List Int) := [[-1, 0, -1, -1], [-1, 0, -1, -1]]
def tt3 : List (List Int) := [[-1, 0, -1, -1], [-1, 1, -1, -1]]
theorem taw1 : writeH 3 [] tt0 0 5 7 = (0, tp1, tt1) := by rfl
theorem taw2 : forkH 3 tp1 tt1 0 = (1, 0, tp2, tt2) := by rfl
theorem taw3 : writeH 3 tp2 tt2 1 5 8 = (0, tp3, tt3) := by rfl
theorem taw4 : readH 3 tp3 tt3 0 5 = (7, 0) := by decide
theorem taw5 : readH 3 tp3 tt3 1 5 = (8, 0) := by decide
theorem taw6 : mayH 3 tp3 tt3 = true := by decide
theorem taw7 : sameH 3 tp3 tt3 3 tp3 tt3 = true := by decide
theorem tl : tp1.length = 1 ∧ tp2.length = 1 ∧ tp3.length = 2 ∧ tt0.length = 1 ∧ tt1.length = 1 ∧ tt2.length = 2 ∧ tt3.length = 2 := by decide
theorem tla : (∀ t ∈ tt0, t.length ≤ 1000) ∧ (∀ t ∈ tt1, t.length ≤ 1000) ∧ (∀ t ∈ tt2, t.length ≤ 1000) ∧ (∀ t ∈ tt3, t.length ≤ 1000) := by decide

set_option maxRecDepth 100000 in
set_option maxHeartbeats 4000000 in
theorem tawake_any (w : World) : Calls Try.prog 10 #[] w fun e w' => e = .returned (.bool true) ∧ Below w.heap.size w w' := by
  have q1 := fun v W h => tWrite_any v 3 [] tt0 0 5 7 W h (by decide) (by decide) tla.1
  rw [taw1] at q1
  have q2 := fun v W h => Fork_any v 3 tp1 tt1 0 W h (by decide) (by decide) tla.2.1
  rw [taw2] at q2
  have q3 := fun v W h => tWrite_any v 3 tp2 tt2 1 5 8 W h (by decide) (by decide) tla.2.2.1
  rw [taw3] at q3
  have q4 := fun v W h => Read_any v 3 tp3 tt3 0 5 W h (by decide)
  rw [taw4] at q4
  have q5 := fun v W h => Read_any v 3 tp3 tt3 1 5 W h (by decide)
  rw [taw5] at q5
  have q6 := fun v W h => tmay_any v 3 tp3 tt3 W h (by decide)
  rw [taw6] at q6
  have q7 := fun v v2 W h h2 => tsame_any v v2 3 tp3 tt3 3 tp3 tt3 W h h2
  rw [taw7] at q7
  have hn : ∀ W : World, Calls Try.prog 11 #[.int .i64 3] W fun e w' => ∃ v', e = .returned (.tuple #[v', .bool true]) ∧ HpV w' v' 3 [] tt0 ∧ Below W.heap.size W w' := fun W => tNew_yes 3 W (by omega) (by omega)
  go_enter Try.func10, Try.ntmps10
  have hZ0 : Below w.heap.size w w := Below.refl w.heap.size w
  go_wp2_with fail
  refine (hn _).mono ?_
  rintro e w1 ⟨v1, rfl, hst1, hb1⟩
  obtain ⟨hc1, hf1⟩ := bcell hb1
  have hz1 := hb1.size
  have hY1 := hZ0.trans (hb1.mono hZ0.size)
  replace hst1 := hst1
  try dsimp only at hst1
  obtain ⟨A1, c1, B1, e1, rfl, hst1⟩ := hst1.form
  have hA1 := ((Below.refl w1.heap.size w1).alloc (Nat.le_refl _) (.cells #[.int .i64 3, .slice A1 ([] : List Pg).length c1, .slice B1 tt0.length e1] 28))
  replace hst1 := hst1.keep hA1
  have k1 := Blk.new_ w1 28 #[.int .i64 3, .slice A1 ([] : List Pg).length c1, .slice B1 tt0.length e1] (w1.heap.size) (by simp)
  have hZ1 : Below w.heap.size w _ := hY1.trans (hA1.mono hY1.size)
  go_wp2_with fail
  refine (q1 _ _ hst1).mono ?_
  rintro e w2 ⟨v2, rfl, hst2, hb2⟩
  obtain ⟨hc2, hf2⟩ := bcell hb2
  have hz2 := hb2.size
  simp at hz2
  replace hst1 := hst1.keep hb2
  replace k1 := k1.keep hb2
  have hY2 := hZ1.trans (hb2.mono hZ1.size)
  have zk1_2 : w1.heap.size < w2.heap.size := by omega
  replace hst2 := hst2.to
  try dsimp only at hst2
  obtain ⟨A2, c2, B2, e2, rfl, hst2⟩ := hst2.form
  have hA2 := ((Below.refl w2.heap.size w2).alloc (Nat.le_refl _) (.cells #[.int .i64 3, .slice A2 tp1.length c2, .slice B2 tt1.length e2] 28))
  replace hst1 := hst1.keep hA2
  replace k1 := k1.keep hA2
  replace hst2 := hst2.keep hA2
  have k2 := Blk.new_ w2 28 #[.int .i64 3, .slice A2 tp1.length c2, .slice B2 tt1.length e2] (w2.heap.size) (by simp)
  have hZ2 : Below w.heap.size w _ := hY2.trans (hA2.mono hY2.size)
  go_wp2_with fail
  refine (q2 _ _ hst2).mono ?_
  rintro e w3 ⟨v3, rfl, hst3, hb3⟩
  obtain ⟨hc3, hf3⟩ := bcell hb3
  have hz3 := hb3.size
  simp at hz3
  replace hst1 := hst1.keep hb3
  replace k1 := k1.keep hb3
  replace hst2 := hst2.keep hb3
  replace k2 := k2.keep hb3
  have hY3 := hZ2.trans (hb3.mono hZ2.size)
  have zk1_3 : w1.heap.size < w3.heap.size := by omega
  have zk2_3 : w2.heap.size < w3.heap.size := by omega
  replace hst3 := hst3.to
  try dsimp only at hst3
  obtain ⟨A3, c3, B3, e3, rfl, hst3⟩ := hst3.form
  have hA3 := ((Below.refl w3.heap.size w3).alloc (Nat.le_refl _) (.cells #[.int .i64 3, .slice A3 tp2.length c3, .slice B3 tt2.length e3] 28))
  replace hst1 := hst1.keep hA3
  replace k1 := k1.keep hA3
  replace hst2 := hst2.keep hA3
  replace k2 := k2.keep hA3
  replace hst3 := hst3.keep hA3
  have k3 := Blk.new_ w3 28 #[.int .i64 3, .slice A3 tp2.length c3, .slice B3 tt2.length e3] (w3.heap.size) (by simp)
  have hZ3 : Below w.heap.size w _ := hY3.trans (hA3.mono hY3.size)
  go_wp2_with fail
  refine (q3 _ _ hst3).mono ?_
  rintro e w4 ⟨v4, rfl, hst4, hb4⟩
  obtain ⟨hc4, hf4⟩ := bcell hb4
  have hz4 := hb4.size
  simp at hz4
  replace hst1 := hst1.keep hb4
  replace k1 := k1.keep hb4
  replace hst2 := hst2.keep hb4
  replace k2 := k2.keep hb4
  replace hst3 := hst3.keep hb4
  replace k3 := k3.keep hb4
  have hY4 := hZ3.trans (hb4.mono hZ3.size)
  have zk1_4 : w1.heap.size < w4.heap.size := by omega
  have zk2_4 : w2.heap.size < w4.heap.size := by omega
  have zk3_4 : w3.heap.size < w4.heap.size := by omega
  replace hst4 := hst4.to
  try dsimp only at hst4
  obtain ⟨A4, c4, B4, e4, rfl, hst4⟩ := hst4.form
  have hA4 := ((Below.refl w4.heap.size w4).alloc (Nat.le_refl _) (.cells #[.int .i64 3, .slice A4 tp3.length c4, .slice B4 tt3.length e4] 28))
  replace hst1 := hst1.keep hA4
  replace k1 := k1.keep hA4
  replace hst2 := hst2.keep hA4
  replace k2 := k2.keep hA4
  replace hst3 := hst3.keep hA4
  replace k3 := k3.keep hA4
  replace hst4 := hst4.keep hA4
  have k4 := Blk.new_ w4 28 #[.int .i64 3, .slice A4 tp3.length c4, .slice B4 tt3.length e4] (w4.heap.size) (by simp)
  have hZ4 : Below w.heap.size w _ := hY4.trans (hA4.mono hY4.size)
  go_wp2_with fail
  refine (q4 _ _ hst4).mono ?_
  rintro e w5 ⟨rfl, hb5⟩
  obtain ⟨hc5, hf5⟩ := bcell hb5
  have hz5 := hb5.size
  simp at hz5
  replace hst1 := hst1.keep hb5
  replace k1 := k1.keep hb5
  replace hst2 := hst2.keep hb5
  replace k2 := k2.keep hb5
  replace hst3 := hst3.keep hb5
  replace k3 := k3.keep hb5
  replace hst4 := hst4.keep hb5
  replace k4 := k4.keep hb5
  have hY5 := hZ4.trans (hb5.mono hZ4.size)
  have zk1_5 : w1.heap.size < w5.heap.size := by omega
  have zk2_5 : w2.heap.size < w5.heap.size := by omega
  have zk3_5 : w3.heap.size < w5.heap.size := by omega
  have zk4_5 : w4.heap.size < w5.heap.size := by omega
  have hZ5 : Below w.heap.size w w5 := hY5
  go_wp2_with fail
  refine (q5 _ _ hst4).mono ?_
  rintro e w6 ⟨rfl, hb6⟩
  obtain ⟨hc6, hf6⟩ := bcell hb6
  have hz6 := hb6.size
  replace hst1 := hst1.keep hb6
  replace k1 := k1.keep hb6
  replace hst2 := hst2.keep hb6
  replace k2 := k2.keep hb6
  replace hst3 := hst3.keep hb6
  replace k3 := k3.keep hb6
  replace hst4 := hst4.keep hb6
  replace k4 := k4.keep hb6
  have hY6 := hZ5.trans (hb6.mono hZ5.size)
  have zk1_6 : w1.heap.size < w6.heap.size := by omega
  have zk2_6 : w2.heap.size < w6.heap.size := by omega
  have zk3_6 : w3.heap.size < w6.heap.size := by omega
  have zk4_6 : w4.heap.size < w6.heap.size := by omega
  have hZ6 : Below w.heap.size w w6 := hY6
  go_wp2_with fail
  refine (q6 _ _ hst4).mono ?_
  rintro e w7 ⟨rfl, hb7⟩
  obtain ⟨hc7, hf7⟩ := bcell hb7
  have hz7 := hb7.size
  replace hst1 := hst1.keep hb7
  replace k1 := k1.keep hb7
  replace hst2 := hst2.keep hb7
  replace k2 := k2.keep hb7
  replace hst3 := hst3.keep hb7
  replace k3 := k3.keep hb7
  replace hst4 := hst4.keep hb7
  replace k4 := k4.keep hb7
  have hY7 := hZ6.trans (hb7.mono hZ6.size)
  have zk1_7 : w1.heap.size < w7.heap.size := by omega
  have zk2_7 : w2.heap.size < w7.heap.size := by omega
  have zk3_7 : w3.heap.size < w7.heap.size := by omega
  have zk4_7 : w4.heap.size < w7.heap.size := by omega
  have hZ7 : Below w.heap.size w w7 := hY7
  go_wp2_with fail
  refine (q7 _ _ _ hst4 hst4).mono ?_
  rintro e w8 ⟨rfl, hb8⟩
  obtain ⟨hc8, hf8⟩ := bcell hb8
  have hz8 := hb8.size
  replace hst1 := hst1.keep hb8
  replace k1 := k1.keep hb8
  replace hst2 := hst2.keep hb8
  replace k2 := k2.keep hb8
  replace hst3 := hst3.keep hb8
  replace k3 := k3.keep hb8
  replace hst4 := hst4.keep hb8
  replace k4 := k4.keep hb8
  have hY8 := hZ7.trans (hb8.mono hZ7.size)
  have zk1_8 : w1.heap.size < w8.heap.size := by omega
  have zk2_8 : w2.heap.size < w8.heap.size := by omega
  have zk3_8 : w3.heap.size < w8.heap.size := by omega
  have zk4_8 : w4.heap.size < w8.heap.size := by omega
  go_wp2
  go_ret
  exact ⟨rfl, hY8⟩

end Go.Proofs.Ytoogobenjhmjjaa
