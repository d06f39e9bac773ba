/- The walk of LockApart. -/
import Derived.Test.YtkmdifngljdpeaaLkLawStays2
namespace Go.Proofs.Ytkmdifngljdpeaa
open Go Go.RowKit
set_option linter.unusedVariables false

set_option maxRecDepth 100000 in
set_option maxHeartbeats 4000000 in
theorem apart_long (w : World) (A0 : Option Addr) (c0 : Nat) (now mx : Int) (ls : List Lk) (hst0 : LkV w (.agg #[.int .i64 now, .int .i64 mx, .slice A0 ls.length c0]) now mx ls) (i j a b : Int) (h30 : 30 < ls.length) :
    Calls Try.prog 9 #[.agg #[.int .i64 now, .int .i64 mx, .slice A0 ls.length c0], .int .i64 i, .int .i64 j, .int .i64 a, .int .i64 b] w fun e w' => e = .returned (.bool true) ∧ Below w.heap.size w w' := by
  have h30' : (30 : Int) < (ls.length : Int) := by omega
  go_enter Try.func9, Try.ntmps9
  have hA0 := ((Below.refl w.heap.size w).alloc (Nat.le_refl _) (.cells #[.int .i64 now, .int .i64 mx, .slice A0 ls.length c0] 24))
  replace hst0 := hst0.keep hA0
  have kC := Blk.new_ w 24 #[.int .i64 now, .int .i64 mx, .slice A0 ls.length c0] (w.heap.size) (by simp)
  have hZ0 : Below w.heap.size w _ := hA0
  go_wp2_with fail
  refine (awake_any _).mono ?_
  rintro e w1 ⟨rfl, hb1⟩
  obtain ⟨hc1, hf1⟩ := bcell hb1
  have hz1 := hb1.size
  simp at hz1
  replace hst0 := hst0.keep hb1
  replace kC := kC.keep hb1
  have hY1 := hZ0.trans (hb1.mono hZ0.size)
  have zkC_1 : w.heap.size < w1.heap.size := by omega
  go_wp2
  go_ret
  exact ⟨rfl, hY1⟩

set_option maxRecDepth 100000 in
set_option maxHeartbeats 4000000 in
theorem apart_same (w : World) (A0 : Option Addr) (c0 : Nat) (now mx : Int) (ls : List Lk) (hst0 : LkV w (.agg #[.int .i64 now, .int .i64 mx, .slice A0 ls.length c0]) now mx ls) (i j a b : Int) (h30 : ls.length ≤ 30) (hl : i = j) :
    Calls Try.prog 9 #[.agg #[.int .i64 now, .int .i64 mx, .slice A0 ls.length c0], .int .i64 i, .int .i64 j, .int .i64 a, .int .i64 b] w fun e w' => e = .returned (.bool true) ∧ Below w.heap.size w w' := by
  have h30' : ¬ (30 : Int) < (ls.length : Int) := by omega
  subst hl
  go_enter Try.func9, Try.ntmps9
  have hA0 := ((Below.refl w.heap.size w).alloc (Nat.le_refl _) (.cells #[.int .i64 now, .int .i64 mx, .slice A0 ls.length c0] 24))
  replace hst0 := hst0.keep hA0
  have kC := Blk.new_ w 24 #[.int .i64 now, .int .i64 mx, .slice A0 ls.length c0] (w.heap.size) (by simp)
  have hZ0 : Below w.heap.size w _ := hA0
  go_wp2_with fail
  refine (awake_any _).mono ?_
  rintro e w1 ⟨rfl, hb1⟩
  obtain ⟨hc1, hf1⟩ := bcell hb1
  have hz1 := hb1.size
  simp at hz1
  replace hst0 := hst0.keep hb1
  replace kC := kC.keep hb1
  have hY1 := hZ0.trans (hb1.mono hZ0.size)
  have zkC_1 : w.heap.size < w1.heap.size := by omega
  go_wp2
  go_ret
  exact ⟨rfl, hY1⟩

set_option maxRecDepth 100000 in
set_option maxHeartbeats 4000000 in
theorem apart_main (w : World) (A0 : Option Addr) (c0 : Nat) (now mx : Int) (ls : List Lk) (hst0 : LkV w (.agg #[.int .i64 now, .int .i64 mx, .slice A0 ls.length c0]) now mx ls) (i j a b : Int) (eX eY eP eQ : Int) (lsX lsY lsP : List Lk) (q1 q2 : Bool) (h30 : ls.length ≤ 30) (hl : (i == j) = false) (hX : takeL now mx ls i a = (eX, lsX)) (hY : takeL now mx lsX j b = (eY, lsY)) (hP : takeL now mx ls j b = (eP, lsP)) (hQ : takeL now mx lsP i a = (eQ, lsY)) (lX : lsX.length ≤ 30) (lP : lsP.length ≤ 30) (bX : (eX == 0) = q1) (bQ : (eQ == 0) = q1) (bY : (eY == 0) = q2) (bP : (eP == 0) = q2) :
    Calls Try.prog 9 #[.agg #[.int .i64 now, .int .i64 mx, .slice A0 ls.length c0], .int .i64 i, .int .i64 j, .int .i64 a, .int .i64 b] w fun e w' => e = .returned (.bool true) ∧ Below w.heap.size w w' := by
  have h30' : ¬ (30 : Int) < (ls.length : Int) := by omega
  have cX := fun v W hs => Take_any v now mx i a ls W hs (by omega)
  rw [hX] at cX
  have cY := fun v W hs => Take_any v now mx j b lsX W hs (by omega)
  rw [hY] at cY
  have cP := fun v W hs => Take_any v now mx j b ls W hs (by omega)
  rw [hP] at cP
  have cQ := fun v W hs => Take_any v now mx i a lsP W hs (by omega)
  rw [hQ] at cQ
  have sA := fun v1 v2 W h1 h2 => LSame_any v1 v2 now mx now mx lsY lsY W h1 h2
  rw [sameL_refl] at sA
  clear hX hY hP hQ lX lP
  go_enter Try.func9, Try.ntmps9
  have hA0 := ((Below.refl w.heap.size w).alloc (Nat.le_refl _) (.cells #[.int .i64 now, .int .i64 mx, .slice A0 ls.length c0] 24))
  replace hst0 := hst0.keep hA0
  have kC := Blk.new_ w 24 #[.int .i64 now, .int .i64 mx, .slice A0 ls.length c0] (w.heap.size) (by simp)
  have hZ0 : Below w.heap.size w _ := hA0
  go_wp2_with fail
  refine (awake_any _).mono ?_
  rintro e w1 ⟨rfl, hb1⟩
  obtain ⟨hc1, hf1⟩ := bcell hb1
  have hz1 := hb1.size
  simp at hz1
  replace hst0 := hst0.keep hb1
  replace kC := kC.keep hb1
  have hY1 := hZ0.trans (hb1.mono hZ0.size)
  have zkC_1 : w.heap.size < w1.heap.size := by omega
  have hZ1 : Below w.heap.size w w1 := hY1
  go_wp2_with fail
  refine (cX _ _ hst0).mono ?_
  rintro e w2 ⟨v2, rfl, hstX, hb2⟩
  obtain ⟨hc2, hf2⟩ := bcell hb2
  have hz2 := hb2.size
  replace hst0 := hst0.keep hb2
  replace kC := kC.keep hb2
  have hY2 := hZ1.trans (hb2.mono hZ1.size)
  have zkC_2 : w.heap.size < w2.heap.size := by omega
  replace hstX := hstX.to
  dsimp only at hstX
  obtain ⟨AX, dX, rfl, hstX⟩ := hstX.form
  have hA2 := ((Below.refl w2.heap.size w2).alloc (Nat.le_refl _) (.cells #[.int .i64 now, .int .i64 mx, .slice AX lsX.length dX] 24))
  replace hst0 := hst0.keep hA2
  replace kC := kC.keep hA2
  replace hstX := hstX.keep hA2
  have kX := Blk.new_ w2 24 #[.int .i64 now, .int .i64 mx, .slice AX lsX.length dX] (w2.heap.size) (by simp)
  have hZ2 : Below w.heap.size w _ := hY2.trans (hA2.mono hY2.size)
  go_wp2_with fail
  refine (cY _ _ hstX).mono ?_
  rintro e w3 ⟨v3, rfl, hstY, hb3⟩
  obtain ⟨hc3, hf3⟩ := bcell hb3
  have hz3 := hb3.size
  simp at hz3
  replace hst0 := hst0.keep hb3
  replace kC := kC.keep hb3
  replace hstX := hstX.keep hb3
  replace kX := kX.keep hb3
  have hY3 := hZ2.trans (hb3.mono hZ2.size)
  have zkC_3 : w.heap.size < w3.heap.size := by omega
  have zkX_3 : w2.heap.size < w3.heap.size := by omega
  replace hstY := hstY.to
  dsimp only at hstY
  obtain ⟨AY, dY, rfl, hstY⟩ := hstY.form
  have hA3 := ((Below.refl w3.heap.size w3).alloc (Nat.le_refl _) (.cells #[.int .i64 now, .int .i64 mx, .slice AY lsY.length dY] 24))
  replace hst0 := hst0.keep hA3
  replace kC := kC.keep hA3
  replace hstX := hstX.keep hA3
  replace kX := kX.keep hA3
  replace hstY := hstY.keep hA3
  have kY := Blk.new_ w3 24 #[.int .i64 now, .int .i64 mx, .slice AY lsY.length dY] (w3.heap.size) (by simp)
  have hZ3 : Below w.heap.size w _ := hY3.trans (hA3.mono hY3.size)
  go_wp2_with fail
  refine (cP _ _ hst0).mono ?_
  rintro e w4 ⟨v4, rfl, hstP, hb4⟩
  obtain ⟨hc4, hf4⟩ := bcell hb4
  have hz4 := hb4.size
  simp at hz4
  replace hst0 := hst0.keep hb4
  replace kC := kC.keep hb4
  replace hstX := hstX.keep hb4
  replace kX := kX.keep hb4
  replace hstY := hstY.keep hb4
  replace kY := kY.keep hb4
  have hY4 := hZ3.trans (hb4.mono hZ3.size)
  have zkC_4 : w.heap.size < w4.heap.size := by omega
  have zkX_4 : w2.heap.size < w4.heap.size := by omega
  have zkY_4 : w3.heap.size < w4.heap.size := by omega
  replace hstP := hstP.to
  dsimp only at hstP
  obtain ⟨AP, dP, rfl, hstP⟩ := hstP.form
  have hA4 := ((Below.refl w4.heap.size w4).alloc (Nat.le_refl _) (.cells #[.int .i64 now, .int .i64 mx, .slice AP lsP.length dP] 24))
  replace hst0 := hst0.keep hA4
  replace kC := kC.keep hA4
  replace hstX := hstX.keep hA4
  replace kX := kX.keep hA4
  replace hstY := hstY.keep hA4
  replace kY := kY.keep hA4
  replace hstP := hstP.keep hA4
  have kP := Blk.new_ w4 24 #[.int .i64 now, .int .i64 mx, .slice AP lsP.length dP] (w4.heap.size) (by simp)
  have hZ4 : Below w.heap.size w _ := hY4.trans (hA4.mono hY4.size)
  go_wp2_with fail
  refine (cQ _ _ hstP).mono ?_
  rintro e w5 ⟨v5, rfl, hstQ, hb5⟩
  obtain ⟨hc5, hf5⟩ := bcell hb5
  have hz5 := hb5.size
  simp at hz5
  replace hst0 := hst0.keep hb5
  replace kC := kC.keep hb5
  replace hstX := hstX.keep hb5
  replace kX := kX.keep hb5
  replace hstY := hstY.keep hb5
  replace kY := kY.keep hb5
  replace hstP := hstP.keep hb5
  replace kP := kP.keep hb5
  have hY5 := hZ4.trans (hb5.mono hZ4.size)
  have zkC_5 : w.heap.size < w5.heap.size := by omega
  have zkX_5 : w2.heap.size < w5.heap.size := by omega
  have zkY_5 : w3.heap.size < w5.heap.size := by omega
  have zkP_5 : w4.heap.size < w5.heap.size := by omega
  replace hstQ := hstQ.to
  dsimp only at hstQ
  obtain ⟨AQ, dQ, rfl, hstQ⟩ := hstQ.form
  have hA5 := ((Below.refl w5.heap.size w5).alloc (Nat.le_refl _) (.cells #[.int .i64 now, .int .i64 mx, .slice AQ lsY.length dQ] 24))
  replace hst0 := hst0.keep hA5
  replace kC := kC.keep hA5
  replace hstX := hstX.keep hA5
  replace kX := kX.keep hA5
  replace hstY := hstY.keep hA5
  replace kY := kY.keep hA5
  replace hstP := hstP.keep hA5
  replace kP := kP.keep hA5
  replace hstQ := hstQ.keep hA5
  have kQ := Blk.new_ w5 24 #[.int .i64 now, .int .i64 mx, .slice AQ lsY.length dQ] (w5.heap.size) (by simp)
  have hZ5 : Below w.heap.size w _ := hY5.trans (hA5.mono hY5.size)
  go_wp2_with fail
  refine (sA _ _ _ hstY hstQ).mono ?_
  rintro e w6 ⟨rfl, hb6⟩
  obtain ⟨hc6, hf6⟩ := bcell hb6
  have hz6 := hb6.size
  simp at hz6
  replace hst0 := hst0.keep hb6
  replace kC := kC.keep hb6
  replace hstX := hstX.keep hb6
  replace kX := kX.keep hb6
  replace hstY := hstY.keep hb6
  replace kY := kY.keep hb6
  replace hstP := hstP.keep hb6
  replace kP := kP.keep hb6
  replace hstQ := hstQ.keep hb6
  replace kQ := kQ.keep hb6
  have hY6 := hZ5.trans (hb6.mono hZ5.size)
  have zkC_6 : w.heap.size < w6.heap.size := by omega
  have zkX_6 : w2.heap.size < w6.heap.size := by omega
  have zkY_6 : w3.heap.size < w6.heap.size := by omega
  have zkP_6 : w4.heap.size < w6.heap.size := by omega
  have zkQ_6 : w5.heap.size < w6.heap.size := by omega
  go_wp2
  go_ret
  exact ⟨rfl, hY6⟩

theorem take_zero {now mx : Int} {ls : List Lk} {i j a b : Int} (hij : i ≠ j) : (takeL now mx (takeL now mx ls i a).2 j b).1 = 0 ↔ (takeL now mx ls j b).1 = 0 := by
  by_cases h1 : (takeL now mx ls i a).1 = 0
  · obtain ⟨k, rfl, hm, h0, h4, hk, hf, he⟩ := take_ok h1
    rw [he]
    constructor
    · intro h
      obtain ⟨m, rfl, hm2, b0, b4, hk2, hf2, _⟩ := take_ok h
      have hkm : m < ls.length := by simpa using hk2
      rw [List.getElem_set_ne (by omega)] at hf2
      rw [take_in hm hkm b0 b4, if_pos hf2]
    · intro h
      obtain ⟨m, rfl, hm2, b0, b4, hk2, hf2, _⟩ := take_ok h
      have := take_may hm k a
      rw [he] at this
      have hkm : m < (ls.set k ⟨ls[k].v, a⟩).length := by simpa using hk2
      rw [take_in this hkm b0 b4, if_pos (by rw [List.getElem_set_ne (by omega)]; exact hf2)]
  · rw [take_err h1]

theorem take_comm {now mx : Int} {ls : List Lk} {i j a b : Int} (hij : i ≠ j) : (takeL now mx (takeL now mx ls i a).2 j b).2 = (takeL now mx (takeL now mx ls j b).2 i a).2 := by
  have z1 := take_zero (now := now) (mx := mx) (ls := ls) (a := a) (b := b) hij
  have z2 := take_zero (now := now) (mx := mx) (ls := ls) (a := b) (b := a) (Ne.symm hij)
  by_cases h1 : (takeL now mx ls i a).1 = 0
  · by_cases h2 : (takeL now mx ls j b).1 = 0
    · obtain ⟨k, rfl, hm, h0, h4, hk, hf, he⟩ := take_ok h1
      obtain ⟨m, rfl, _, b0, b4, hk2, hf2, he2⟩ := take_ok h2
      have m1 := take_may hm k a
      have m2 := take_may hm m b
      rw [he] at m1 ⊢
      rw [he2] at m2 ⊢
      have hkm : m < (ls.set k ⟨ls[k].v, a⟩).length := by simpa using hk2
      have hkk : k < (ls.set m ⟨ls[m].v, b⟩).length := by simpa using hk
      have hne : k ≠ m := by omega
      rw [take_in m1 hkm b0 b4, take_in m2 hkk h0 h4]
      simp only [List.getElem_set_ne hne, List.getElem_set_ne (Ne.symm hne)]
      rw [if_pos hf2, if_pos hf]
      exact List.set_comm _ _ hne
    · rw [take_err h2, take_err (fun h => h2 (z1.1 h))]
  · rw [take_err h1, take_err (fun h => h1 (z2.1 h))]

theorem lockApart_walk (w : World) (v0 : Value) (now mx : Int) (ls : List Lk) (hst0 : LkV w v0 now mx ls) (_wn : okI now) (_wm : okI mx) (_hok : ∀ q ∈ ls, lkOk q) (i : Int) (_w1 : (Lit.int .i64 i).wf = true) (j : Int) (_w2 : (Lit.int .i64 j).wf = true)
    (a : Int) (_w3 : (Lit.int .i64 a).wf = true) (b : Int) (_w4 : (Lit.int .i64 b).wf = true) :
    Calls Try.prog 9 #[v0, .int .i64 i, .int .i64 j, .int .i64 a, .int .i64 b] w fun e w' => e = .returned (.bool true) ∧ Below w.heap.size w w' := by
  obtain ⟨A0, c0, rfl, hst0⟩ := hst0.form
  by_cases h30 : 30 < ls.length
  · exact apart_long w A0 c0 now mx ls hst0 i j a b h30
  have h30 : ls.length ≤ 30 := by omega
  by_cases hl : i = j
  · exact apart_same w A0 c0 now mx ls hst0 i j a b h30 hl
  have l1 : (takeL now mx ls i a).2.length = ls.length := doL_len _ _ _ _ _ _
  have l2 : (takeL now mx ls j b).2.length = ls.length := doL_len _ _ _ _ _ _
  refine apart_main w A0 c0 now mx ls hst0 i j a b _ _ _ (takeL now mx (takeL now mx ls j b).2 i a).1 (takeL now mx ls i a).2 (takeL now mx (takeL now mx ls i a).2 j b).2 (takeL now mx ls j b).2 ((takeL now mx ls i a).1 == 0) ((takeL now mx ls j b).1 == 0) h30 (by simpa using hl) rfl rfl rfl
    (Prod.ext rfl (take_comm hl).symm) (by omega) (by omega) rfl ?_ ?_ rfl
  · rw [Bool.eq_iff_iff, beq_iff_eq, beq_iff_eq]
    exact take_zero (Ne.symm hl)
  · rw [Bool.eq_iff_iff, beq_iff_eq, beq_iff_eq]
    exact take_zero hl

end Go.Proofs.Ytkmdifngljdpeaa
