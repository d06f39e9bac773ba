/- The walk of TableTells. -/
import Derived.Test.YtoogobenjhmjjaaTrD
import Derived.Test.YtoogobenjhmjjaaTbOpen
import Derived.Test.YtoogobenjhmjjaaTbAwake
import Derived.Deep.DeepCutAuto
namespace Go.Proofs.Ytoogobenjhmjjaa
open Go Go.RowKit
set_option linter.unusedVariables false

set_option maxRecDepth 100000 in
set_option maxHeartbeats 8000000 in
theorem tableTells_many (w : World) (A0 B0 A5 B5 : Option Addr) (c0 e0 c5 e5 : Nat) (cap kap : Int) (ps qs : List Pg) (ts us : List (List Int)) (hst0 : HpV w (.agg #[.int .i64 cap, .slice A0 ps.length c0, .slice B0 ts.length e0]) cap ps ts) (hstG : HpV w (.agg #[.int .i64 kap, .slice A5 qs.length c5, .slice B5 us.length e5]) kap qs us) (t a v : Int) (bF bG : Bool) (hF : fewH ps ts = bF) (hG : fewH qs us = bG) (hb : (bF && bG) = false) :
    Calls Try.prog 6 #[.agg #[.int .i64 cap, .slice A0 ps.length c0, .slice B0 ts.length e0], .agg #[.int .i64 kap, .slice A5 qs.length c5, .slice B5 us.length e5], .int .i64 t, .int .i64 a, .int .i64 v] w fun e w' => e = .returned (.bool true) ∧ Below w.heap.size w w' := by
  have qF := fun v W h => few_any v cap ps ts W h
  have qG := fun v W h => few_any v kap qs us W h
  rw [hF] at qF
  rw [hG] at qG
  clear hF hG
  go_enter Try.func6, Try.ntmps6
  have hA0 := (((Below.refl w.heap.size w).alloc (Nat.le_refl _) (.cells #[.int .i64 cap, .slice A0 ps.length c0, .slice B0 ts.length e0] 28)).alloc (by simp) (.cells #[.int .i64 kap, .slice A5 qs.length c5, .slice B5 us.length e5] 28))
  replace hst0 := hst0.keep hA0
  replace hstG := hstG.keep hA0
  have kC := (Blk.new_ w 28 #[.int .i64 cap, .slice A0 ps.length c0, .slice B0 ts.length e0] (w.heap.size) (by simp)).alloc (.cells #[.int .i64 kap, .slice A5 qs.length c5, .slice B5 us.length e5] 28)
  have kG := Blk.new_ (w.alloc (.cells #[.int .i64 cap, .slice A0 ps.length c0, .slice B0 ts.length e0] 28)) 28 #[.int .i64 kap, .slice A5 qs.length c5, .slice B5 us.length e5] (w.heap.size + 1) (by simp)
  have hZ0 : Below w.heap.size w _ := hA0
  go_wp2_with fail
  refine (tawake_any _).mono ?_
  rintro e w1 ⟨rfl, hb1⟩
  obtain ⟨hc1, hf1⟩ := bcell hb1
  have hz1 := hb1.size
  simp at hz1
  replace hst0 := hst0.keep hb1
  replace hstG := hstG.keep hb1
  replace kC := kC.keep hb1
  replace kG := kG.keep hb1
  have hY1 := hZ0.trans (hb1.mono hZ0.size)
  have zkC_1 : w.heap.size < w1.heap.size := by omega
  have zkG_1 : w.heap.size + 1 < w1.heap.size := by omega
  have hZ1 : Below w.heap.size w w1 := hY1
  go_wp2_with fail
  refine (qF _ _ hst0).mono ?_
  rintro e w2 ⟨rfl, hb2⟩
  obtain ⟨hc2, hf2⟩ := bcell hb2
  have hz2 := hb2.size
  replace hst0 := hst0.keep hb2
  replace hstG := hstG.keep hb2
  replace kC := kC.keep hb2
  replace kG := kG.keep hb2
  have hY2 := hZ1.trans (hb2.mono hZ1.size)
  have zkC_2 : w.heap.size < w2.heap.size := by omega
  have zkG_2 : w.heap.size + 1 < w2.heap.size := by omega
  have hZ2 : Below w.heap.size w w2 := hY2
  go_wp2_with fail
  refine (qG _ _ hstG).mono ?_
  rintro e w3 ⟨rfl, hb3⟩
  obtain ⟨hc3, hf3⟩ := bcell hb3
  have hz3 := hb3.size
  replace hst0 := hst0.keep hb3
  replace hstG := hstG.keep hb3
  replace kC := kC.keep hb3
  replace kG := kG.keep hb3
  have hY3 := hZ2.trans (hb3.mono hZ2.size)
  have zkC_3 : w.heap.size < w3.heap.size := by omega
  have zkG_3 : w.heap.size + 1 < w3.heap.size := by omega
  cases bF with
  | false => (go_wp2; go_ret; exact ⟨by first | rfl | (simp [*]; done), hY3⟩)
  | true => (cases bG with | true => cases hb | false => (go_wp2; go_ret; exact ⟨by first | rfl | (simp [*]; done), hY3⟩))

set_option maxRecDepth 100000 in
set_option maxHeartbeats 8000000 in
theorem tableTells_main (w : World) (A0 B0 A5 B5 : Option Addr) (c0 e0 c5 e5 : Nat) (cap kap : Int) (ps qs : List Pg) (ts us : List (List Int)) (hst0 : HpV w (.agg #[.int .i64 cap, .slice A0 ps.length c0, .slice B0 ts.length e0]) cap ps ts) (hstG : HpV w (.agg #[.int .i64 kap, .slice A5 qs.length c5, .slice B5 us.length e5]) kap qs us) (t a v : Int) (hF : fewH ps ts = true) (hG : fewH qs us = true) :
    Calls Try.prog 6 #[.agg #[.int .i64 cap, .slice A0 ps.length c0, .slice B0 ts.length e0], .agg #[.int .i64 kap, .slice A5 qs.length c5, .slice B5 us.length e5], .int .i64 t, .int .i64 a, .int .i64 v] w fun e w' => e = .returned (.bool true) ∧ Below w.heap.size w w' := by
  have qF := fun v W h => few_any v cap ps ts W h
  have qG := fun v W h => few_any v kap qs us W h
  rw [hF] at qF
  rw [hG] at qG
  have l1 : ps.length ≤ 20 := (few_iff.1 hF).2.1
  have l2 : ts.length ≤ 10 := (few_iff.1 hF).2.2
  have l3 : ∀ t ∈ ts, t.length ≤ 1000 := fun t ht => by have := (few_iff.1 hF).1 t ht; omega
  have qR := fun x W h => Read_any x cap ps ts t a W h (by omega)
  have rR := fun x W h => RRead_any x cap ps ts t a W h (by omega) l3
  have qA := fun x W h => tWrite_any x cap ps ts t a v W h (by omega) (by omega) l3
  have rA := fun x W h => rWriteH_any x cap ps ts t a v W h (by omega) (by omega) l3
  have qB := fun x W h => Fork_any x cap ps ts t W h (by omega) (by omega) l3
  have rB := fun x W h => rFork_any x cap ps ts t W h (by omega) (by omega) l3
  have qD := fun x W h => Drop_any x cap ps ts t W h (by omega) (by omega) l3
  have rD := fun x W h => rDrop_any x cap ps ts t W h (by omega) (by omega) l3
  have qM := fun x W h => tmay_any x cap ps ts W h (by omega)
  have rM := fun x W h => rmayH_any x cap ps ts W h (by omega) l3
  rcases hR : readH cap ps ts t a with ⟨rv, re⟩
  rcases hA : writeH cap ps ts t a v with ⟨eA, psA, tsA⟩
  rcases hB : forkH cap ps ts t with ⟨nB, eB, psB, tsB⟩
  rcases hD : dropH cap ps ts t with ⟨nD, eD, psD, tsD⟩
  rw [hR] at qR rR
  rw [hA] at qA rA
  rw [hB] at qB rB
  rw [hD] at qD rD
  have sA := fun x y W h g => tRSame_any x y cap cap psA psA tsA tsA W h g
  have sB := fun x y W h g => tRSame_any x y cap cap psB psB tsB tsB W h g
  have sD := fun x y W h g => tRSame_any x y cap cap psD psD tsD tsD W h g
  rw [same_refl] at sA sB sD
  have rS := fun x y W h g => tRSame_any x y cap kap ps qs ts us W h g
  have qS := fun x y W h g => tsame_any x y cap ps ts kap qs us W h g
  generalize mayH cap ps ts = bM at *
  generalize sameH cap ps ts kap qs us = bS at *
  clear hF hG hR hA hB hD l3
  go_enter Try.func6, Try.ntmps6
  have hA0 := (((Below.refl w.heap.size w).alloc (Nat.le_refl _) (.cells #[.int .i64 cap, .slice A0 ps.length c0, .slice B0 ts.length e0] 28)).alloc (by simp) (.cells #[.int .i64 kap, .slice A5 qs.length c5, .slice B5 us.length e5] 28))
  replace hst0 := hst0.keep hA0
  replace hstG := hstG.keep hA0
  have kC := (Blk.new_ w 28 #[.int .i64 cap, .slice A0 ps.length c0, .slice B0 ts.length e0] (w.heap.size) (by simp)).alloc (.cells #[.int .i64 kap, .slice A5 qs.length c5, .slice B5 us.length e5] 28)
  have kG := Blk.new_ (w.alloc (.cells #[.int .i64 cap, .slice A0 ps.length c0, .slice B0 ts.length e0] 28)) 28 #[.int .i64 kap, .slice A5 qs.length c5, .slice B5 us.length e5] (w.heap.size + 1) (by simp)
  have hZ0 : Below w.heap.size w _ := hA0
  go_wp2_with fail
  refine (tawake_any _).mono ?_
  rintro e w1 ⟨rfl, hb1⟩
  obtain ⟨hc1, hf1⟩ := bcell hb1
  have hz1 := hb1.size
  simp at hz1
  replace hst0 := hst0.keep hb1
  replace hstG := hstG.keep hb1
  replace kC := kC.keep hb1
  replace kG := kG.keep hb1
  have hY1 := hZ0.trans (hb1.mono hZ0.size)
  have zkC_1 : w.heap.size < w1.heap.size := by omega
  have zkG_1 : w.heap.size + 1 < w1.heap.size := by omega
  have hZ1 : Below w.heap.size w w1 := hY1
  go_wp2_with fail
  refine (qF _ _ hst0).mono ?_
  rintro e w2 ⟨rfl, hb2⟩
  obtain ⟨hc2, hf2⟩ := bcell hb2
  have hz2 := hb2.size
  replace hst0 := hst0.keep hb2
  replace hstG := hstG.keep hb2
  replace kC := kC.keep hb2
  replace kG := kG.keep hb2
  have hY2 := hZ1.trans (hb2.mono hZ1.size)
  have zkC_2 : w.heap.size < w2.heap.size := by omega
  have zkG_2 : w.heap.size + 1 < w2.heap.size := by omega
  have hZ2 : Below w.heap.size w w2 := hY2
  go_wp2_with fail
  refine (qG _ _ hstG).mono ?_
  rintro e w3 ⟨rfl, hb3⟩
  obtain ⟨hc3, hf3⟩ := bcell hb3
  have hz3 := hb3.size
  replace hst0 := hst0.keep hb3
  replace hstG := hstG.keep hb3
  replace kC := kC.keep hb3
  replace kG := kG.keep hb3
  have hY3 := hZ2.trans (hb3.mono hZ2.size)
  have zkC_3 : w.heap.size < w3.heap.size := by omega
  have zkG_3 : w.heap.size + 1 < w3.heap.size := by omega
  have hZ3 : Below w.heap.size w w3 := hY3
  go_wp2_with fail
  refine (qR _ _ hst0).mono ?_
  rintro e w4 ⟨rfl, hb4⟩
  obtain ⟨hc4, hf4⟩ := bcell hb4
  have hz4 := hb4.size
  replace hst0 := hst0.keep hb4
  replace hstG := hstG.keep hb4
  replace kC := kC.keep hb4
  replace kG := kG.keep hb4
  have hY4 := hZ3.trans (hb4.mono hZ3.size)
  have zkC_4 : w.heap.size < w4.heap.size := by omega
  have zkG_4 : w.heap.size + 1 < w4.heap.size := by omega
  have hZ4 : Below w.heap.size w w4 := hY4
  go_wp2_with fail
  refine (rR _ _ hst0).mono ?_
  rintro e w5 ⟨rfl, hb5⟩
  obtain ⟨hc5, hf5⟩ := bcell hb5
  have hz5 := hb5.size
  replace hst0 := hst0.keep hb5
  replace hstG := hstG.keep hb5
  replace kC := kC.keep hb5
  replace kG := kG.keep hb5
  have hY5 := hZ4.trans (hb5.mono hZ4.size)
  have zkC_5 : w.heap.size < w5.heap.size := by omega
  have zkG_5 : w.heap.size + 1 < w5.heap.size := by omega
  have hZ5 : Below w.heap.size w w5 := hY5
  go_wp2_with fail
  refine (qA _ _ hst0).mono ?_
  rintro e w6 ⟨v6, rfl, hstA, hb6⟩
  obtain ⟨hc6, hf6⟩ := bcell hb6
  have hz6 := hb6.size
  replace hst0 := hst0.keep hb6
  replace hstG := hstG.keep hb6
  replace kC := kC.keep hb6
  replace kG := kG.keep hb6
  have hY6 := hZ5.trans (hb6.mono hZ5.size)
  have zkC_6 : w.heap.size < w6.heap.size := by omega
  have zkG_6 : w.heap.size + 1 < w6.heap.size := by omega
  replace hstA := hstA.to
  try dsimp only at hstA
  obtain ⟨AA, cA, BA, eA, rfl, hstA⟩ := hstA.form
  have hA6 := ((Below.refl w6.heap.size w6).alloc (Nat.le_refl _) (.cells #[.int .i64 cap, .slice AA psA.length cA, .slice BA tsA.length eA] 28))
  replace hst0 := hst0.keep hA6
  replace hstG := hstG.keep hA6
  replace kC := kC.keep hA6
  replace kG := kG.keep hA6
  replace hstA := hstA.keep hA6
  have kA := Blk.new_ w6 28 #[.int .i64 cap, .slice AA psA.length cA, .slice BA tsA.length eA] (w6.heap.size) (by simp)
  have hZ6 : Below w.heap.size w _ := hY6.trans (hA6.mono hY6.size)
  go_wp2_with fail
  refine (rA _ _ hst0).mono ?_
  rintro e w7 ⟨v7, rfl, hstA2, hb7⟩
  obtain ⟨hc7, hf7⟩ := bcell hb7
  have hz7 := hb7.size
  simp at hz7
  replace hst0 := hst0.keep hb7
  replace hstG := hstG.keep hb7
  replace kC := kC.keep hb7
  replace kG := kG.keep hb7
  replace hstA := hstA.keep hb7
  replace kA := kA.keep hb7
  have hY7 := hZ6.trans (hb7.mono hZ6.size)
  have zkC_7 : w.heap.size < w7.heap.size := by omega
  have zkG_7 : w.heap.size + 1 < w7.heap.size := by omega
  have zkA_7 : w6.heap.size < w7.heap.size := by omega
  replace hstA2 := hstA2
  try dsimp only at hstA2
  obtain ⟨AA2, cA2, BA2, eA2, rfl, hstA2⟩ := hstA2.form
  have hA7 := ((Below.refl w7.heap.size w7).alloc (Nat.le_refl _) (.cells #[.int .i64 cap, .slice AA2 psA.length cA2, .slice BA2 tsA.length eA2] 28))
  replace hst0 := hst0.keep hA7
  replace hstG := hstG.keep hA7
  replace kC := kC.keep hA7
  replace kG := kG.keep hA7
  replace hstA := hstA.keep hA7
  replace kA := kA.keep hA7
  replace hstA2 := hstA2.keep hA7
  have kA2 := Blk.new_ w7 28 #[.int .i64 cap, .slice AA2 psA.length cA2, .slice BA2 tsA.length eA2] (w7.heap.size) (by simp)
  have hZ7 : Below w.heap.size w _ := hY7.trans (hA7.mono hY7.size)
  go_wp2_with fail
  refine (qB _ _ hst0).mono ?_
  rintro e w8 ⟨v8, rfl, hstB, hb8⟩
  obtain ⟨hc8, hf8⟩ := bcell hb8
  have hz8 := hb8.size
  simp at hz8
  replace hst0 := hst0.keep hb8
  replace hstG := hstG.keep hb8
  replace kC := kC.keep hb8
  replace kG := kG.keep hb8
  replace hstA := hstA.keep hb8
  replace kA := kA.keep hb8
  replace hstA2 := hstA2.keep hb8
  replace kA2 := kA2.keep hb8
  have hY8 := hZ7.trans (hb8.mono hZ7.size)
  have zkC_8 : w.heap.size < w8.heap.size := by omega
  have zkG_8 : w.heap.size + 1 < w8.heap.size := by omega
  have zkA_8 : w6.heap.size < w8.heap.size := by omega
  have zkA2_8 : w7.heap.size < w8.heap.size := by omega
  replace hstB := hstB.to
  try dsimp only at hstB
  obtain ⟨AB, cB, BB, eB, rfl, hstB⟩ := hstB.form
  have hA8 := ((Below.refl w8.heap.size w8).alloc (Nat.le_refl _) (.cells #[.int .i64 cap, .slice AB psB.length cB, .slice BB tsB.length eB] 28))
  replace hst0 := hst0.keep hA8
  replace hstG := hstG.keep hA8
  replace kC := kC.keep hA8
  replace kG := kG.keep hA8
  replace hstA := hstA.keep hA8
  replace kA := kA.keep hA8
  replace hstA2 := hstA2.keep hA8
  replace kA2 := kA2.keep hA8
  replace hstB := hstB.keep hA8
  have kB := Blk.new_ w8 28 #[.int .i64 cap, .slice AB psB.length cB, .slice BB tsB.length eB] (w8.heap.size) (by simp)
  have hZ8 : Below w.heap.size w _ := hY8.trans (hA8.mono hY8.size)
  go_wp2_with fail
  refine (rB _ _ hst0).mono ?_
  rintro e w9 ⟨v9, rfl, hstB2, hb9⟩
  obtain ⟨hc9, hf9⟩ := bcell hb9
  have hz9 := hb9.size
  simp at hz9
  replace hst0 := hst0.keep hb9
  replace hstG := hstG.keep hb9
  replace kC := kC.keep hb9
  replace kG := kG.keep hb9
  replace hstA := hstA.keep hb9
  replace kA := kA.keep hb9
  replace hstA2 := hstA2.keep hb9
  replace kA2 := kA2.keep hb9
  replace hstB := hstB.keep hb9
  replace kB := kB.keep hb9
  have hY9 := hZ8.trans (hb9.mono hZ8.size)
  have zkC_9 : w.heap.size < w9.heap.size := by omega
  have zkG_9 : w.heap.size + 1 < w9.heap.size := by omega
  have zkA_9 : w6.heap.size < w9.heap.size := by omega
  have zkA2_9 : w7.heap.size < w9.heap.size := by omega
  have zkB_9 : w8.heap.size < w9.heap.size := by omega
  replace hstB2 := hstB2
  try dsimp only at hstB2
  obtain ⟨AB2, cB2, BB2, eB2, rfl, hstB2⟩ := hstB2.form
  have hA9 := ((Below.refl w9.heap.size w9).alloc (Nat.le_refl _) (.cells #[.int .i64 cap, .slice AB2 psB.length cB2, .slice BB2 tsB.length eB2] 28))
  replace hst0 := hst0.keep hA9
  replace hstG := hstG.keep hA9
  replace kC := kC.keep hA9
  replace kG := kG.keep hA9
  replace hstA := hstA.keep hA9
  replace kA := kA.keep hA9
  replace hstA2 := hstA2.keep hA9
  replace kA2 := kA2.keep hA9
  replace hstB := hstB.keep hA9
  replace kB := kB.keep hA9
  replace hstB2 := hstB2.keep hA9
  have kB2 := Blk.new_ w9 28 #[.int .i64 cap, .slice AB2 psB.length cB2, .slice BB2 tsB.length eB2] (w9.heap.size) (by simp)
  have hZ9 : Below w.heap.size w _ := hY9.trans (hA9.mono hY9.size)
  go_wp2_with fail
  refine (qD _ _ hst0).mono ?_
  rintro e w10 ⟨v10, rfl, hstD, hb10⟩
  obtain ⟨hc10, hf10⟩ := bcell hb10
  have hz10 := hb10.size
  simp at hz10
  replace hst0 := hst0.keep hb10
  replace hstG := hstG.keep hb10
  replace kC := kC.keep hb10
  replace kG := kG.keep hb10
  replace hstA := hstA.keep hb10
  replace kA := kA.keep hb10
  replace hstA2 := hstA2.keep hb10
  replace kA2 := kA2.keep hb10
  replace hstB := hstB.keep hb10
  replace kB := kB.keep hb10
  replace hstB2 := hstB2.keep hb10
  replace kB2 := kB2.keep hb10
  have hY10 := hZ9.trans (hb10.mono hZ9.size)
  have zkC_10 : w.heap.size < w10.heap.size := by omega
  have zkG_10 : w.heap.size + 1 < w10.heap.size := by omega
  have zkA_10 : w6.heap.size < w10.heap.size := by omega
  have zkA2_10 : w7.heap.size < w10.heap.size := by omega
  have zkB_10 : w8.heap.size < w10.heap.size := by omega
  have zkB2_10 : w9.heap.size < w10.heap.size := by omega
  replace hstD := hstD.to
  try dsimp only at hstD
  obtain ⟨AD, cD, BD, eD, rfl, hstD⟩ := hstD.form
  have hA10 := ((Below.refl w10.heap.size w10).alloc (Nat.le_refl _) (.cells #[.int .i64 cap, .slice AD psD.length cD, .slice BD tsD.length eD] 28))
  replace hst0 := hst0.keep hA10
  replace hstG := hstG.keep hA10
  replace kC := kC.keep hA10
  replace kG := kG.keep hA10
  replace hstA := hstA.keep hA10
  replace kA := kA.keep hA10
  replace hstA2 := hstA2.keep hA10
  replace kA2 := kA2.keep hA10
  replace hstB := hstB.keep hA10
  replace kB := kB.keep hA10
  replace hstB2 := hstB2.keep hA10
  replace kB2 := kB2.keep hA10
  replace hstD := hstD.keep hA10
  have kD := Blk.new_ w10 28 #[.int .i64 cap, .slice AD psD.length cD, .slice BD tsD.length eD] (w10.heap.size) (by simp)
  have hZ10 : Below w.heap.size w _ := hY10.trans (hA10.mono hY10.size)
  go_wp2_with fail
  refine (rD _ _ hst0).mono ?_
  rintro e w11 ⟨v11, rfl, hstD2, hb11⟩
  obtain ⟨hc11, hf11⟩ := bcell hb11
  have hz11 := hb11.size
  simp at hz11
  replace hst0 := hst0.keep hb11
  replace hstG := hstG.keep hb11
  replace kC := kC.keep hb11
  replace kG := kG.keep hb11
  replace hstA := hstA.keep hb11
  replace kA := kA.keep hb11
  replace hstA2 := hstA2.keep hb11
  replace kA2 := kA2.keep hb11
  replace hstB := hstB.keep hb11
  replace kB := kB.keep hb11
  replace hstB2 := hstB2.keep hb11
  replace kB2 := kB2.keep hb11
  replace hstD := hstD.keep hb11
  replace kD := kD.keep hb11
  have hY11 := hZ10.trans (hb11.mono hZ10.size)
  have zkC_11 : w.heap.size < w11.heap.size := by omega
  have zkG_11 : w.heap.size + 1 < w11.heap.size := by omega
  have zkA_11 : w6.heap.size < w11.heap.size := by omega
  have zkA2_11 : w7.heap.size < w11.heap.size := by omega
  have zkB_11 : w8.heap.size < w11.heap.size := by omega
  have zkB2_11 : w9.heap.size < w11.heap.size := by omega
  have zkD_11 : w10.heap.size < w11.heap.size := by omega
  replace hstD2 := hstD2
  try dsimp only at hstD2
  obtain ⟨AD2, cD2, BD2, eD2, rfl, hstD2⟩ := hstD2.form
  have hA11 := ((Below.refl w11.heap.size w11).alloc (Nat.le_refl _) (.cells #[.int .i64 cap, .slice AD2 psD.length cD2, .slice BD2 tsD.length eD2] 28))
  replace hst0 := hst0.keep hA11
  replace hstG := hstG.keep hA11
  replace kC := kC.keep hA11
  replace kG := kG.keep hA11
  replace hstA := hstA.keep hA11
  replace kA := kA.keep hA11
  replace hstA2 := hstA2.keep hA11
  replace kA2 := kA2.keep hA11
  replace hstB := hstB.keep hA11
  replace kB := kB.keep hA11
  replace hstB2 := hstB2.keep hA11
  replace kB2 := kB2.keep hA11
  replace hstD := hstD.keep hA11
  replace kD := kD.keep hA11
  replace hstD2 := hstD2.keep hA11
  have kD2 := Blk.new_ w11 28 #[.int .i64 cap, .slice AD2 psD.length cD2, .slice BD2 tsD.length eD2] (w11.heap.size) (by simp)
  have hZ11 : Below w.heap.size w _ := hY11.trans (hA11.mono hY11.size)
  go_wp2_with fail
  refine (sA _ _ _ hstA hstA2).mono ?_
  rintro e w12 ⟨rfl, hb12⟩
  obtain ⟨hc12, hf12⟩ := bcell hb12
  have hz12 := hb12.size
  simp at hz12
  replace hst0 := hst0.keep hb12
  replace hstG := hstG.keep hb12
  replace kC := kC.keep hb12
  replace kG := kG.keep hb12
  replace hstA := hstA.keep hb12
  replace kA := kA.keep hb12
  replace hstA2 := hstA2.keep hb12
  replace kA2 := kA2.keep hb12
  replace hstB := hstB.keep hb12
  replace kB := kB.keep hb12
  replace hstB2 := hstB2.keep hb12
  replace kB2 := kB2.keep hb12
  replace hstD := hstD.keep hb12
  replace kD := kD.keep hb12
  replace hstD2 := hstD2.keep hb12
  replace kD2 := kD2.keep hb12
  have hY12 := hZ11.trans (hb12.mono hZ11.size)
  have zkC_12 : w.heap.size < w12.heap.size := by omega
  have zkG_12 : w.heap.size + 1 < w12.heap.size := by omega
  have zkA_12 : w6.heap.size < w12.heap.size := by omega
  have zkA2_12 : w7.heap.size < w12.heap.size := by omega
  have zkB_12 : w8.heap.size < w12.heap.size := by omega
  have zkB2_12 : w9.heap.size < w12.heap.size := by omega
  have zkD_12 : w10.heap.size < w12.heap.size := by omega
  have zkD2_12 : w11.heap.size < w12.heap.size := by omega
  have hZ12 : Below w.heap.size w w12 := hY12
  go_wp2_with fail
  refine (sB _ _ _ hstB hstB2).mono ?_
  rintro e w13 ⟨rfl, hb13⟩
  obtain ⟨hc13, hf13⟩ := bcell hb13
  have hz13 := hb13.size
  replace hst0 := hst0.keep hb13
  replace hstG := hstG.keep hb13
  replace kC := kC.keep hb13
  replace kG := kG.keep hb13
  replace hstA := hstA.keep hb13
  replace kA := kA.keep hb13
  replace hstA2 := hstA2.keep hb13
  replace kA2 := kA2.keep hb13
  replace hstB := hstB.keep hb13
  replace kB := kB.keep hb13
  replace hstB2 := hstB2.keep hb13
  replace kB2 := kB2.keep hb13
  replace hstD := hstD.keep hb13
  replace kD := kD.keep hb13
  replace hstD2 := hstD2.keep hb13
  replace kD2 := kD2.keep hb13
  have hY13 := hZ12.trans (hb13.mono hZ12.size)
  have zkC_13 : w.heap.size < w13.heap.size := by omega
  have zkG_13 : w.heap.size + 1 < w13.heap.size := by omega
  have zkA_13 : w6.heap.size < w13.heap.size := by omega
  have zkA2_13 : w7.heap.size < w13.heap.size := by omega
  have zkB_13 : w8.heap.size < w13.heap.size := by omega
  have zkB2_13 : w9.heap.size < w13.heap.size := by omega
  have zkD_13 : w10.heap.size < w13.heap.size := by omega
  have zkD2_13 : w11.heap.size < w13.heap.size := by omega
  have hZ13 : Below w.heap.size w w13 := hY13
  go_wp2_with fail
  refine (sD _ _ _ hstD hstD2).mono ?_
  rintro e w14 ⟨rfl, hb14⟩
  obtain ⟨hc14, hf14⟩ := bcell hb14
  have hz14 := hb14.size
  replace hst0 := hst0.keep hb14
  replace hstG := hstG.keep hb14
  replace kC := kC.keep hb14
  replace kG := kG.keep hb14
  replace hstA := hstA.keep hb14
  replace kA := kA.keep hb14
  replace hstA2 := hstA2.keep hb14
  replace kA2 := kA2.keep hb14
  replace hstB := hstB.keep hb14
  replace kB := kB.keep hb14
  replace hstB2 := hstB2.keep hb14
  replace kB2 := kB2.keep hb14
  replace hstD := hstD.keep hb14
  replace kD := kD.keep hb14
  replace hstD2 := hstD2.keep hb14
  replace kD2 := kD2.keep hb14
  have hY14 := hZ13.trans (hb14.mono hZ13.size)
  have zkC_14 : w.heap.size < w14.heap.size := by omega
  have zkG_14 : w.heap.size + 1 < w14.heap.size := by omega
  have zkA_14 : w6.heap.size < w14.heap.size := by omega
  have zkA2_14 : w7.heap.size < w14.heap.size := by omega
  have zkB_14 : w8.heap.size < w14.heap.size := by omega
  have zkB2_14 : w9.heap.size < w14.heap.size := by omega
  have zkD_14 : w10.heap.size < w14.heap.size := by omega
  have zkD2_14 : w11.heap.size < w14.heap.size := by omega
  have hZ14 : Below w.heap.size w w14 := hY14
  go_wp2_with fail
  refine (rM _ _ hst0).mono ?_
  rintro e w15 ⟨rfl, hb15⟩
  obtain ⟨hc15, hf15⟩ := bcell hb15
  have hz15 := hb15.size
  replace hst0 := hst0.keep hb15
  replace hstG := hstG.keep hb15
  replace kC := kC.keep hb15
  replace kG := kG.keep hb15
  replace hstA := hstA.keep hb15
  replace kA := kA.keep hb15
  replace hstA2 := hstA2.keep hb15
  replace kA2 := kA2.keep hb15
  replace hstB := hstB.keep hb15
  replace kB := kB.keep hb15
  replace hstB2 := hstB2.keep hb15
  replace kB2 := kB2.keep hb15
  replace hstD := hstD.keep hb15
  replace kD := kD.keep hb15
  replace hstD2 := hstD2.keep hb15
  replace kD2 := kD2.keep hb15
  have hY15 := hZ14.trans (hb15.mono hZ14.size)
  have zkC_15 : w.heap.size < w15.heap.size := by omega
  have zkG_15 : w.heap.size + 1 < w15.heap.size := by omega
  have zkA_15 : w6.heap.size < w15.heap.size := by omega
  have zkA2_15 : w7.heap.size < w15.heap.size := by omega
  have zkB_15 : w8.heap.size < w15.heap.size := by omega
  have zkB2_15 : w9.heap.size < w15.heap.size := by omega
  have zkD_15 : w10.heap.size < w15.heap.size := by omega
  have zkD2_15 : w11.heap.size < w15.heap.size := by omega
  have hZ15 : Below w.heap.size w w15 := hY15
  go_wp2_with fail
  refine (rS _ _ _ hst0 hstG).mono ?_
  rintro e w16 ⟨rfl, hb16⟩
  obtain ⟨hc16, hf16⟩ := bcell hb16
  have hz16 := hb16.size
  replace hst0 := hst0.keep hb16
  replace hstG := hstG.keep hb16
  replace kC := kC.keep hb16
  replace kG := kG.keep hb16
  replace hstA := hstA.keep hb16
  replace kA := kA.keep hb16
  replace hstA2 := hstA2.keep hb16
  replace kA2 := kA2.keep hb16
  replace hstB := hstB.keep hb16
  replace kB := kB.keep hb16
  replace hstB2 := hstB2.keep hb16
  replace kB2 := kB2.keep hb16
  replace hstD := hstD.keep hb16
  replace kD := kD.keep hb16
  replace hstD2 := hstD2.keep hb16
  replace kD2 := kD2.keep hb16
  have hY16 := hZ15.trans (hb16.mono hZ15.size)
  have zkC_16 : w.heap.size < w16.heap.size := by omega
  have zkG_16 : w.heap.size + 1 < w16.heap.size := by omega
  have zkA_16 : w6.heap.size < w16.heap.size := by omega
  have zkA2_16 : w7.heap.size < w16.heap.size := by omega
  have zkB_16 : w8.heap.size < w16.heap.size := by omega
  have zkB2_16 : w9.heap.size < w16.heap.size := by omega
  have zkD_16 : w10.heap.size < w16.heap.size := by omega
  have zkD2_16 : w11.heap.size < w16.heap.size := by omega
  have hZ16 : Below w.heap.size w w16 := hY16
  go_wp2_with fail
  refine (qM _ _ hst0).mono ?_
  rintro e w17 ⟨rfl, hb17⟩
  obtain ⟨hc17, hf17⟩ := bcell hb17
  have hz17 := hb17.size
  replace hst0 := hst0.keep hb17
  replace hstG := hstG.keep hb17
  replace kC := kC.keep hb17
  replace kG := kG.keep hb17
  replace hstA := hstA.keep hb17
  replace kA := kA.keep hb17
  replace hstA2 := hstA2.keep hb17
  replace kA2 := kA2.keep hb17
  replace hstB := hstB.keep hb17
  replace kB := kB.keep hb17
  replace hstB2 := hstB2.keep hb17
  replace kB2 := kB2.keep hb17
  replace hstD := hstD.keep hb17
  replace kD := kD.keep hb17
  replace hstD2 := hstD2.keep hb17
  replace kD2 := kD2.keep hb17
  have hY17 := hZ16.trans (hb17.mono hZ16.size)
  have zkC_17 : w.heap.size < w17.heap.size := by omega
  have zkG_17 : w.heap.size + 1 < w17.heap.size := by omega
  have zkA_17 : w6.heap.size < w17.heap.size := by omega
  have zkA2_17 : w7.heap.size < w17.heap.size := by omega
  have zkB_17 : w8.heap.size < w17.heap.size := by omega
  have zkB2_17 : w9.heap.size < w17.heap.size := by omega
  have zkD_17 : w10.heap.size < w17.heap.size := by omega
  have zkD2_17 : w11.heap.size < w17.heap.size := by omega
  have hZ17 : Below w.heap.size w w17 := hY17
  go_wp2_with fail
  refine (qS _ _ _ hst0 hstG).mono ?_
  rintro e w18 ⟨rfl, hb18⟩
  obtain ⟨hc18, hf18⟩ := bcell hb18
  have hz18 := hb18.size
  replace hst0 := hst0.keep hb18
  replace hstG := hstG.keep hb18
  replace kC := kC.keep hb18
  replace kG := kG.keep hb18
  replace hstA := hstA.keep hb18
  replace kA := kA.keep hb18
  replace hstA2 := hstA2.keep hb18
  replace kA2 := kA2.keep hb18
  replace hstB := hstB.keep hb18
  replace kB := kB.keep hb18
  replace hstB2 := hstB2.keep hb18
  replace kB2 := kB2.keep hb18
  replace hstD := hstD.keep hb18
  replace kD := kD.keep hb18
  replace hstD2 := hstD2.keep hb18
  replace kD2 := kD2.keep hb18
  have hY18 := hZ17.trans (hb18.mono hZ17.size)
  have zkC_18 : w.heap.size < w18.heap.size := by omega
  have zkG_18 : w.heap.size + 1 < w18.heap.size := by omega
  have zkA_18 : w6.heap.size < w18.heap.size := by omega
  have zkA2_18 : w7.heap.size < w18.heap.size := by omega
  have zkB_18 : w8.heap.size < w18.heap.size := by omega
  have zkB2_18 : w9.heap.size < w18.heap.size := by omega
  have zkD_18 : w10.heap.size < w18.heap.size := by omega
  have zkD2_18 : w11.heap.size < w18.heap.size := by omega
  go_wp2
  go_ret
  exact ⟨by first | rfl | (simp [*]; done), hY18⟩

theorem tableTells_walk (w : World) (v0 : Value) (cap : Int) (ps : List Pg) (ts : List (List Int)) (hst0 : HpV w v0 cap ps ts) (_wc : okI cap) (_wp : ∀ q ∈ ps, pgOk q) (_wt : ∀ t ∈ ts, ∀ q ∈ t, okI q)
    (v1 : Value) (kap : Int) (qs : List Pg) (us : List (List Int)) (hst1 : HpV w v1 kap qs us) (_wc1 : okI kap) (_wp1 : ∀ q ∈ qs, pgOk q) (_wt1 : ∀ t ∈ us, ∀ q ∈ t, okI q) (t : Int) (_w0 : (Lit.int .i64 t).wf = true) (a : Int) (_w1 : (Lit.int .i64 a).wf = true) (v : Int) (_w2 : (Lit.int .i64 v).wf = true) :
    Calls Try.prog 6 #[v0, v1, .int .i64 t, .int .i64 a, .int .i64 v] w fun e w' => e = .returned (.bool true) ∧ Below w.heap.size w w' := by
  obtain ⟨A0, c0, B0, e0, rfl, hst0⟩ := hst0.form
  obtain ⟨A5, c5, B5, e5, rfl, hst1⟩ := hst1.form
  cases hF : fewH ps ts with
  | false => exact tableTells_many w A0 B0 A5 B5 c0 e0 c5 e5 cap kap ps qs ts us hst0 hst1 t a v _ _ hF rfl (by rfl)
  | true =>
    cases hG : fewH qs us with
    | false => exact tableTells_many w A0 B0 A5 B5 c0 e0 c5 e5 cap kap ps qs ts us hst0 hst1 t a v _ _ hF hG (by rfl)
    | true => exact tableTells_main w A0 B0 A5 B5 c0 e0 c5 e5 cap kap ps qs ts us hst0 hst1 t a v hF hG
end Go.Proofs.Ytoogobenjhmjjaa
