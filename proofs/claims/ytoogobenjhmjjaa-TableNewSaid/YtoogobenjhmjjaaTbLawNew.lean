/- The walk of TableNew. -/
import Derived.Test.YtoogobenjhmjjaaTbPlain3
import Derived.Test.YtoogobenjhmjjaaTbOpen
namespace Go.Proofs.Ytoogobenjhmjjaa
open Go Go.RowKit
set_option linter.unusedVariables false

theorem new_may {room : Int} (h0 : 0 ≤ room) (h1 : room ≤ 12) : MH room [] tt0 := by
  refine ⟨by simp [mayP, h0, h1], by decide, by decide, fun t ht x hx => ?_, fun p hp => by simp at hp⟩
  simp [tt0] at ht
  subst ht
  simp at hx
  exact .inl hx
theorem new_read {room a : Int} (h0 : 0 ≤ room) (h1 : room ≤ 12) : readH room [] tt0 0 a = (0, if 0 ≤ a ∧ a < 16 then 0 else 11) := by
  have hM := new_may h0 h1
  have htab : tabAt tt0 0 = [-1, -1, -1, -1] := rfl
  by_cases h : 0 ≤ a ∧ a < 16
  · have ho : ¬ outW tt0 0 a := by unfold outW; rw [htab]; simp; omega
    rw [(read_tab hM).2 ho, if_pos h]
    have : plAt tt0 0 a = -1 := by
      unfold plAt
      rw [htab]
      have h4 : a.toNat / 4 < 4 := by omega
      generalize a.toNat / 4 = m at h4
      obtain rfl | rfl | rfl | rfl : m = 0 ∨ m = 1 ∨ m = 2 ∨ m = 3 := by omega
      all_goals rfl
    rw [this]
    congr 1
    exact wget_zero _
  · have ho : outW tt0 0 a := by unfold outW; omega
    rw [(read_tab hM).1 ho, if_neg h]

set_option maxRecDepth 100000 in
set_option maxHeartbeats 4000000 in
theorem tnew_neg (w : World) (room a : Int) (h : room < 0) :
    Calls Try.prog 3 #[.int .i64 room, .int .i64 a] w fun e w' => e = .returned (.bool true) ∧ Below w.heap.size w w' := by
  have hN := fun W => tNew_no room W (.inl h)
  go_enter Try.func3, Try.ntmps3
  have hZ0 : Below w.heap.size w w := Below.refl w.heap.size w
  go_wp2_with fail
  refine (tawake_any _).mono ?_
  rintro e w1 ⟨rfl, hb1⟩
  obtain ⟨hc1, hf1⟩ := bcell hb1
  have hz1 := hb1.size
  have hY1 := hZ0.trans (hb1.mono hZ0.size)
  have hZ1 : Below w.heap.size w w1 := hY1
  go_wp2_with fail
  refine (hN _).mono ?_
  rintro e w2 ⟨rfl, hb2⟩
  obtain ⟨hc2, hf2⟩ := bcell hb2
  have hz2 := hb2.size
  have hY2 := hZ1.trans (hb2.mono hZ1.size)
  have hA2 := ((Below.refl w2.heap.size w2).alloc (Nat.le_refl _) (.cells #[.int .i64 0, .slice none 0 0, .slice none 0 0] 28))
  have kH := Blk.new_ w2 28 #[.int .i64 0, .slice none 0 0, .slice none 0 0] (w2.heap.size) (by simp)
  have hZ2 : Below w.heap.size w _ := hY2.trans (hA2.mono hY2.size)
  go_wp2
  go_ret
  exact ⟨by first | rfl | (simp [*]; done), hZ2⟩

set_option maxRecDepth 100000 in
set_option maxHeartbeats 4000000 in
theorem tnew_big (w : World) (room a : Int) (h : 12 < room) :
    Calls Try.prog 3 #[.int .i64 room, .int .i64 a] w fun e w' => e = .returned (.bool true) ∧ Below w.heap.size w w' := by
  have hN := fun W => tNew_no room W (.inr h)
  have h2 : ¬ room < 0 := by omega
  go_enter Try.func3, Try.ntmps3
  have hZ0 : Below w.heap.size w w := Below.refl w.heap.size w
  go_wp2_with fail
  refine (tawake_any _).mono ?_
  rintro e w1 ⟨rfl, hb1⟩
  obtain ⟨hc1, hf1⟩ := bcell hb1
  have hz1 := hb1.size
  have hY1 := hZ0.trans (hb1.mono hZ0.size)
  have hZ1 : Below w.heap.size w w1 := hY1
  go_wp2_with fail
  refine (hN _).mono ?_
  rintro e w2 ⟨rfl, hb2⟩
  obtain ⟨hc2, hf2⟩ := bcell hb2
  have hz2 := hb2.size
  have hY2 := hZ1.trans (hb2.mono hZ1.size)
  have hA2 := ((Below.refl w2.heap.size w2).alloc (Nat.le_refl _) (.cells #[.int .i64 0, .slice none 0 0, .slice none 0 0] 28))
  have kH := Blk.new_ w2 28 #[.int .i64 0, .slice none 0 0, .slice none 0 0] (w2.heap.size) (by simp)
  have hZ2 : Below w.heap.size w _ := hY2.trans (hA2.mono hY2.size)
  go_wp2
  go_ret
  exact ⟨by first | rfl | (simp [*]; done), hZ2⟩

set_option maxRecDepth 100000 in
set_option maxHeartbeats 4000000 in
theorem tnew_in (w : World) (room a : Int) (h0 : 0 ≤ room) (h1 : room ≤ 12) (g0 : 0 ≤ a) (g1 : a < 16) :
    Calls Try.prog 3 #[.int .i64 room, .int .i64 a] w fun e w' => e = .returned (.bool true) ∧ Below w.heap.size w w' := by
  have hN : ∀ W : World, Calls Try.prog 11 #[.int .i64 room] W fun e w' => ∃ v', e = .returned (.tuple #[v', .bool true]) ∧ HpV w' v' room [] tt0 ∧ Below W.heap.size W w' := fun W => tNew_yes room W h0 h1
  have qR := fun v W h => Read_any v room [] tt0 0 a W h (by decide)
  rw [new_read h0 h1] at qR
  rw [if_pos ⟨g0, g1⟩] at qR
  have qM := fun v W h => tmay_any v room [] tt0 W h (by decide)
  rw [mayH_iff.2 (new_may h0 h1)] at qM
  clear h0 h1
  go_enter Try.func3, Try.ntmps3
  have hZ0 : Below w.heap.size w w := Below.refl w.heap.size w
  go_wp2_with fail
  refine (tawake_any _).mono ?_
  rintro e w1 ⟨rfl, hb1⟩
  obtain ⟨hc1, hf1⟩ := bcell hb1
  have hz1 := hb1.size
  have hY1 := hZ0.trans (hb1.mono hZ0.size)
  have hZ1 : Below w.heap.size w w1 := hY1
  go_wp2_with fail
  refine (hN _).mono ?_
  rintro e w2 ⟨v2, rfl, hst1, hb2⟩
  obtain ⟨hc2, hf2⟩ := bcell hb2
  have hz2 := hb2.size
  have hY2 := hZ1.trans (hb2.mono hZ1.size)
  replace hst1 := hst1
  try dsimp only at hst1
  obtain ⟨A1, c1, B1, e1, rfl, hst1⟩ := hst1.form
  have hA2 := ((Below.refl w2.heap.size w2).alloc (Nat.le_refl _) (.cells #[.int .i64 room, .slice A1 ([] : List Pg).length c1, .slice B1 tt0.length e1] 28))
  replace hst1 := hst1.keep hA2
  have k1 := Blk.new_ w2 28 #[.int .i64 room, .slice A1 ([] : List Pg).length c1, .slice B1 tt0.length e1] (w2.heap.size) (by simp)
  have hZ2 : Below w.heap.size w _ := hY2.trans (hA2.mono hY2.size)
  go_wp2_with fail
  refine (qR _ _ hst1).mono ?_
  rintro e w3 ⟨rfl, hb3⟩
  obtain ⟨hc3, hf3⟩ := bcell hb3
  have hz3 := hb3.size
  simp at hz3
  replace hst1 := hst1.keep hb3
  replace k1 := k1.keep hb3
  have hY3 := hZ2.trans (hb3.mono hZ2.size)
  have zk1_3 : w2.heap.size < w3.heap.size := by omega
  have hZ3 : Below w.heap.size w w3 := hY3
  go_wp2_with fail
  refine (qM _ _ hst1).mono ?_
  rintro e w4 ⟨rfl, hb4⟩
  obtain ⟨hc4, hf4⟩ := bcell hb4
  have hz4 := hb4.size
  replace hst1 := hst1.keep hb4
  replace k1 := k1.keep hb4
  have hY4 := hZ3.trans (hb4.mono hZ3.size)
  have zk1_4 : w2.heap.size < w4.heap.size := by omega
  have k1_0 : w4.cell? ⟨w2.heap.size, 0, none⟩ = some (.int .i64 room) := by rw [k1.cell]; rfl
  have k1_1 : w4.cell? ⟨w2.heap.size, 1, none⟩ = some (.slice A1 ([] : List Pg).length c1) := by rw [k1.cell]; rfl
  have k1_2 : w4.cell? ⟨w2.heap.size, 2, none⟩ = some (.slice B1 tt0.length e1) := by rw [k1.cell]; rfl
  go_wp2
  go_ret
  exact ⟨by first | rfl | (simp [*]; done), hY4⟩

set_option maxRecDepth 100000 in
set_option maxHeartbeats 4000000 in
theorem tnew_low (w : World) (room a : Int) (h0 : 0 ≤ room) (h1 : room ≤ 12) (g0 : ¬ 0 ≤ a) :
    Calls Try.prog 3 #[.int .i64 room, .int .i64 a] w fun e w' => e = .returned (.bool true) ∧ Below w.heap.size w w' := by
  have hN : ∀ W : World, Calls Try.prog 11 #[.int .i64 room] W fun e w' => ∃ v', e = .returned (.tuple #[v', .bool true]) ∧ HpV w' v' room [] tt0 ∧ Below W.heap.size W w' := fun W => tNew_yes room W h0 h1
  have qR := fun v W h => Read_any v room [] tt0 0 a W h (by decide)
  rw [new_read h0 h1] at qR
  rw [if_neg (by omega)] at qR
  have qM := fun v W h => tmay_any v room [] tt0 W h (by decide)
  rw [mayH_iff.2 (new_may h0 h1)] at qM
  clear h0 h1
  go_enter Try.func3, Try.ntmps3
  have hZ0 : Below w.heap.size w w := Below.refl w.heap.size w
  go_wp2_with fail
  refine (tawake_any _).mono ?_
  rintro e w1 ⟨rfl, hb1⟩
  obtain ⟨hc1, hf1⟩ := bcell hb1
  have hz1 := hb1.size
  have hY1 := hZ0.trans (hb1.mono hZ0.size)
  have hZ1 : Below w.heap.size w w1 := hY1
  go_wp2_with fail
  refine (hN _).mono ?_
  rintro e w2 ⟨v2, rfl, hst1, hb2⟩
  obtain ⟨hc2, hf2⟩ := bcell hb2
  have hz2 := hb2.size
  have hY2 := hZ1.trans (hb2.mono hZ1.size)
  replace hst1 := hst1
  try dsimp only at hst1
  obtain ⟨A1, c1, B1, e1, rfl, hst1⟩ := hst1.form
  have hA2 := ((Below.refl w2.heap.size w2).alloc (Nat.le_refl _) (.cells #[.int .i64 room, .slice A1 ([] : List Pg).length c1, .slice B1 tt0.length e1] 28))
  replace hst1 := hst1.keep hA2
  have k1 := Blk.new_ w2 28 #[.int .i64 room, .slice A1 ([] : List Pg).length c1, .slice B1 tt0.length e1] (w2.heap.size) (by simp)
  have hZ2 : Below w.heap.size w _ := hY2.trans (hA2.mono hY2.size)
  go_wp2_with fail
  refine (qR _ _ hst1).mono ?_
  rintro e w3 ⟨rfl, hb3⟩
  obtain ⟨hc3, hf3⟩ := bcell hb3
  have hz3 := hb3.size
  simp at hz3
  replace hst1 := hst1.keep hb3
  replace k1 := k1.keep hb3
  have hY3 := hZ2.trans (hb3.mono hZ2.size)
  have zk1_3 : w2.heap.size < w3.heap.size := by omega
  have hZ3 : Below w.heap.size w w3 := hY3
  go_wp2_with fail
  refine (qM _ _ hst1).mono ?_
  rintro e w4 ⟨rfl, hb4⟩
  obtain ⟨hc4, hf4⟩ := bcell hb4
  have hz4 := hb4.size
  replace hst1 := hst1.keep hb4
  replace k1 := k1.keep hb4
  have hY4 := hZ3.trans (hb4.mono hZ3.size)
  have zk1_4 : w2.heap.size < w4.heap.size := by omega
  have k1_0 : w4.cell? ⟨w2.heap.size, 0, none⟩ = some (.int .i64 room) := by rw [k1.cell]; rfl
  have k1_1 : w4.cell? ⟨w2.heap.size, 1, none⟩ = some (.slice A1 ([] : List Pg).length c1) := by rw [k1.cell]; rfl
  have k1_2 : w4.cell? ⟨w2.heap.size, 2, none⟩ = some (.slice B1 tt0.length e1) := by rw [k1.cell]; rfl
  go_wp2
  go_ret
  exact ⟨by first | rfl | (simp [*]; done), hY4⟩

set_option maxRecDepth 100000 in
set_option maxHeartbeats 4000000 in
theorem tnew_high (w : World) (room a : Int) (h0 : 0 ≤ room) (h1 : room ≤ 12) (g0 : 0 ≤ a) (g1 : ¬ a < 16) :
    Calls Try.prog 3 #[.int .i64 room, .int .i64 a] w fun e w' => e = .returned (.bool true) ∧ Below w.heap.size w w' := by
  have hN : ∀ W : World, Calls Try.prog 11 #[.int .i64 room] W fun e w' => ∃ v', e = .returned (.tuple #[v', .bool true]) ∧ HpV w' v' room [] tt0 ∧ Below W.heap.size W w' := fun W => tNew_yes room W h0 h1
  have qR := fun v W h => Read_any v room [] tt0 0 a W h (by decide)
  rw [new_read h0 h1] at qR
  rw [if_neg (by omega)] at qR
  have qM := fun v W h => tmay_any v room [] tt0 W h (by decide)
  rw [mayH_iff.2 (new_may h0 h1)] at qM
  clear h0 h1
  go_enter Try.func3, Try.ntmps3
  have hZ0 : Below w.heap.size w w := Below.refl w.heap.size w
  go_wp2_with fail
  refine (tawake_any _).mono ?_
  rintro e w1 ⟨rfl, hb1⟩
  obtain ⟨hc1, hf1⟩ := bcell hb1
  have hz1 := hb1.size
  have hY1 := hZ0.trans (hb1.mono hZ0.size)
  have hZ1 : Below w.heap.size w w1 := hY1
  go_wp2_with fail
  refine (hN _).mono ?_
  rintro e w2 ⟨v2, rfl, hst1, hb2⟩
  obtain ⟨hc2, hf2⟩ := bcell hb2
  have hz2 := hb2.size
  have hY2 := hZ1.trans (hb2.mono hZ1.size)
  replace hst1 := hst1
  try dsimp only at hst1
  obtain ⟨A1, c1, B1, e1, rfl, hst1⟩ := hst1.form
  have hA2 := ((Below.refl w2.heap.size w2).alloc (Nat.le_refl _) (.cells #[.int .i64 room, .slice A1 ([] : List Pg).length c1, .slice B1 tt0.length e1] 28))
  replace hst1 := hst1.keep hA2
  have k1 := Blk.new_ w2 28 #[.int .i64 room, .slice A1 ([] : List Pg).length c1, .slice B1 tt0.length e1] (w2.heap.size) (by simp)
  have hZ2 : Below w.heap.size w _ := hY2.trans (hA2.mono hY2.size)
  go_wp2_with fail
  refine (qR _ _ hst1).mono ?_
  rintro e w3 ⟨rfl, hb3⟩
  obtain ⟨hc3, hf3⟩ := bcell hb3
  have hz3 := hb3.size
  simp at hz3
  replace hst1 := hst1.keep hb3
  replace k1 := k1.keep hb3
  have hY3 := hZ2.trans (hb3.mono hZ2.size)
  have zk1_3 : w2.heap.size < w3.heap.size := by omega
  have hZ3 : Below w.heap.size w w3 := hY3
  go_wp2_with fail
  refine (qM _ _ hst1).mono ?_
  rintro e w4 ⟨rfl, hb4⟩
  obtain ⟨hc4, hf4⟩ := bcell hb4
  have hz4 := hb4.size
  replace hst1 := hst1.keep hb4
  replace k1 := k1.keep hb4
  have hY4 := hZ3.trans (hb4.mono hZ3.size)
  have zk1_4 : w2.heap.size < w4.heap.size := by omega
  have k1_0 : w4.cell? ⟨w2.heap.size, 0, none⟩ = some (.int .i64 room) := by rw [k1.cell]; rfl
  have k1_1 : w4.cell? ⟨w2.heap.size, 1, none⟩ = some (.slice A1 ([] : List Pg).length c1) := by rw [k1.cell]; rfl
  have k1_2 : w4.cell? ⟨w2.heap.size, 2, none⟩ = some (.slice B1 tt0.length e1) := by rw [k1.cell]; rfl
  go_wp2
  go_ret
  exact ⟨by first | rfl | (simp [*]; done), hY4⟩

theorem tableNew_walk (w : World) (room : Int) (_w1 : (Lit.int .i64 room).wf = true) (a : Int) (_w2 : (Lit.int .i64 a).wf = true) :
    Calls Try.prog 3 #[.int .i64 room, .int .i64 a] w fun e w' => e = .returned (.bool true) ∧ Below w.heap.size w w' := by
  by_cases h : room < 0
  · exact tnew_neg w room a h
  by_cases h2 : 12 < room
  · exact tnew_big w room a h2
  by_cases g0 : 0 ≤ a
  · by_cases g1 : a < 16
    · exact tnew_in w room a (by omega) (by omega) g0 g1
    · exact tnew_high w room a (by omega) (by omega) g0 g1
  · exact tnew_low w room a (by omega) (by omega) g0

end Go.Proofs.Ytoogobenjhmjjaa
