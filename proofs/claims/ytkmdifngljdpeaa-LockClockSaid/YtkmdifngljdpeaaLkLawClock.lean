/- The walk of LockClock. -/
import Derived.Test.YtkmdifngljdpeaaLkPlain
import Derived.Test.YtkmdifngljdpeaaLkOpen
namespace Go.Proofs.Ytkmdifngljdpeaa
open Go Go.RowKit
set_option linter.unusedVariables false

set_option maxRecDepth 100000 in
set_option maxHeartbeats 4000000 in
theorem clock_no0 (w : World) (n m : Int) (h1 : n < 1) :
    Calls Try.prog 8 #[.int .i64 n, .int .i64 m] w fun e w' => e = .returned (.bool true) ∧ Below w.heap.size w w' := by
  have hno : newOk n m = false := by simp [newOk]; omega
  have cN := fun W => LNew_no n m W hno
  clear hno
  go_enter Try.func8, Try.ntmps8
  have hZ0 : Below w.heap.size w w := Below.refl w.heap.size w
  go_wp2_with fail
  refine (awake_any _).mono ?_
  rintro e w1 ⟨rfl, hb1⟩
  obtain ⟨hc1, hf1⟩ := bcell hb1
  have hz1 := hb1.size
  have hY1 := hZ0.trans (hb1.mono hZ0.size)
  have hZ1 : Below w.heap.size w w1 := hY1
  go_wp2_with fail
  refine (cN _).mono ?_
  rintro e w2 ⟨rfl, hb2⟩
  obtain ⟨hc2, hf2⟩ := bcell hb2
  have hz2 := hb2.size
  have hY2 := hZ1.trans (hb2.mono hZ1.size)
  have hA2 := ((Below.refl w2.heap.size w2).alloc (Nat.le_refl _) (.cells #[.int .i64 0, .int .i64 0, .slice none 0 0] 24))
  have kC := Blk.new_ w2 24 #[.int .i64 0, .int .i64 0, .slice none 0 0] (w2.heap.size) (by simp)
  have hZ2 : Below w.heap.size w _ := hY2.trans (hA2.mono hY2.size)
  go_wp2
  go_ret
  exact ⟨rfl, hZ2⟩

set_option maxRecDepth 100000 in
set_option maxHeartbeats 4000000 in
theorem clock_no1 (w : World) (n m : Int) (h1 : ¬ n < 1) (h2 : 8 < n) :
    Calls Try.prog 8 #[.int .i64 n, .int .i64 m] w fun e w' => e = .returned (.bool true) ∧ Below w.heap.size w w' := by
  have hno : newOk n m = false := by simp [newOk]; omega
  have cN := fun W => LNew_no n m W hno
  clear hno
  go_enter Try.func8, Try.ntmps8
  have hZ0 : Below w.heap.size w w := Below.refl w.heap.size w
  go_wp2_with fail
  refine (awake_any _).mono ?_
  rintro e w1 ⟨rfl, hb1⟩
  obtain ⟨hc1, hf1⟩ := bcell hb1
  have hz1 := hb1.size
  have hY1 := hZ0.trans (hb1.mono hZ0.size)
  have hZ1 : Below w.heap.size w w1 := hY1
  go_wp2_with fail
  refine (cN _).mono ?_
  rintro e w2 ⟨rfl, hb2⟩
  obtain ⟨hc2, hf2⟩ := bcell hb2
  have hz2 := hb2.size
  have hY2 := hZ1.trans (hb2.mono hZ1.size)
  have hA2 := ((Below.refl w2.heap.size w2).alloc (Nat.le_refl _) (.cells #[.int .i64 0, .int .i64 0, .slice none 0 0] 24))
  have kC := Blk.new_ w2 24 #[.int .i64 0, .int .i64 0, .slice none 0 0] (w2.heap.size) (by simp)
  have hZ2 : Below w.heap.size w _ := hY2.trans (hA2.mono hY2.size)
  go_wp2
  go_ret
  exact ⟨rfl, hZ2⟩

set_option maxRecDepth 100000 in
set_option maxHeartbeats 4000000 in
theorem clock_no2 (w : World) (n m : Int) (h1 : ¬ n < 1) (h2 : ¬ 8 < n) (h3 : m < 0) :
    Calls Try.prog 8 #[.int .i64 n, .int .i64 m] w fun e w' => e = .returned (.bool true) ∧ Below w.heap.size w w' := by
  have hno : newOk n m = false := by simp [newOk]; omega
  have cN := fun W => LNew_no n m W hno
  clear hno
  go_enter Try.func8, Try.ntmps8
  have hZ0 : Below w.heap.size w w := Below.refl w.heap.size w
  go_wp2_with fail
  refine (awake_any _).mono ?_
  rintro e w1 ⟨rfl, hb1⟩
  obtain ⟨hc1, hf1⟩ := bcell hb1
  have hz1 := hb1.size
  have hY1 := hZ0.trans (hb1.mono hZ0.size)
  have hZ1 : Below w.heap.size w w1 := hY1
  go_wp2_with fail
  refine (cN _).mono ?_
  rintro e w2 ⟨rfl, hb2⟩
  obtain ⟨hc2, hf2⟩ := bcell hb2
  have hz2 := hb2.size
  have hY2 := hZ1.trans (hb2.mono hZ1.size)
  have hA2 := ((Below.refl w2.heap.size w2).alloc (Nat.le_refl _) (.cells #[.int .i64 0, .int .i64 0, .slice none 0 0] 24))
  have kC := Blk.new_ w2 24 #[.int .i64 0, .int .i64 0, .slice none 0 0] (w2.heap.size) (by simp)
  have hZ2 : Below w.heap.size w _ := hY2.trans (hA2.mono hY2.size)
  go_wp2
  go_ret
  exact ⟨rfl, hZ2⟩

set_option maxRecDepth 100000 in
set_option maxHeartbeats 4000000 in
theorem clock_no3 (w : World) (n m : Int) (h1 : ¬ n < 1) (h2 : ¬ 8 < n) (h3 : ¬ m < 0) (h4 : 1000 < m) :
    Calls Try.prog 8 #[.int .i64 n, .int .i64 m] w fun e w' => e = .returned (.bool true) ∧ Below w.heap.size w w' := by
  have hno : newOk n m = false := by simp [newOk]; omega
  have cN := fun W => LNew_no n m W hno
  clear hno
  go_enter Try.func8, Try.ntmps8
  have hZ0 : Below w.heap.size w w := Below.refl w.heap.size w
  go_wp2_with fail
  refine (awake_any _).mono ?_
  rintro e w1 ⟨rfl, hb1⟩
  obtain ⟨hc1, hf1⟩ := bcell hb1
  have hz1 := hb1.size
  have hY1 := hZ0.trans (hb1.mono hZ0.size)
  have hZ1 : Below w.heap.size w w1 := hY1
  go_wp2_with fail
  refine (cN _).mono ?_
  rintro e w2 ⟨rfl, hb2⟩
  obtain ⟨hc2, hf2⟩ := bcell hb2
  have hz2 := hb2.size
  have hY2 := hZ1.trans (hb2.mono hZ1.size)
  have hA2 := ((Below.refl w2.heap.size w2).alloc (Nat.le_refl _) (.cells #[.int .i64 0, .int .i64 0, .slice none 0 0] 24))
  have kC := Blk.new_ w2 24 #[.int .i64 0, .int .i64 0, .slice none 0 0] (w2.heap.size) (by simp)
  have hZ2 : Below w.heap.size w _ := hY2.trans (hA2.mono hY2.size)
  go_wp2
  go_ret
  exact ⟨rfl, hZ2⟩

set_option maxRecDepth 100000 in
set_option maxHeartbeats 4000000 in
theorem clock_more (w : World) (ls : List Lk) (m : Nat) (h50 : 50 < (m : Int)) (cN : ∀ W : World, Calls Try.prog 17 #[.int .i64 (ls.length : Int), .int .i64 (m : Int)] W fun e w' => ∃ v', e = .returned (.tuple #[v', .bool true]) ∧ LkO w' W.heap.size v' 0 m ls ∧ Below W.heap.size W w')  :
    Calls Try.prog 8 #[.int .i64 (ls.length : Int), .int .i64 (m : Int)] w fun e w' => e = .returned (.bool true) ∧ Below w.heap.size w w' := by
  go_enter Try.func8, Try.ntmps8
  have hZ0 : Below w.heap.size w w := Below.refl w.heap.size w
  go_wp2_with fail
  refine (awake_any _).mono ?_
  rintro e w1 ⟨rfl, hb1⟩
  obtain ⟨hc1, hf1⟩ := bcell hb1
  have hz1 := hb1.size
  have hY1 := hZ0.trans (hb1.mono hZ0.size)
  have hZ1 : Below w.heap.size w w1 := hY1
  go_wp2_with fail
  refine (cN _).mono ?_
  rintro e w2 ⟨v2, rfl, hstC, hb2⟩
  obtain ⟨hc2, hf2⟩ := bcell hb2
  have hz2 := hb2.size
  have hY2 := hZ1.trans (hb2.mono hZ1.size)
  replace hstC := hstC.to
  obtain ⟨AC, dC, rfl, hstC⟩ := hstC.form
  have hA2 := ((Below.refl w2.heap.size w2).alloc (Nat.le_refl _) (.cells #[.int .i64 0, .int .i64 (m : Int), .slice AC ls.length dC] 24))
  have kC := Blk.new_ w2 24 #[.int .i64 0, .int .i64 (m : Int), .slice AC ls.length dC] (w2.heap.size) (by simp)
  have hZ2 : Below w.heap.size w _ := hY2.trans (hA2.mono hY2.size)
  go_wp2
  go_ret
  exact ⟨rfl, hZ2⟩

set_option maxRecDepth 100000 in
set_option maxHeartbeats 4000000 in
theorem clock_main (w : World) (ls : List Lk) (m : Nat) (h50 : ¬ 50 < (m : Int)) (h8 : ls.length ≤ 8) (hm : ∀ k : Nat, k ≤ m → mayL k m ls = true) (cN : ∀ W : World, Calls Try.prog 17 #[.int .i64 (ls.length : Int), .int .i64 (m : Int)] W fun e w' => ∃ v', e = .returned (.tuple #[v', .bool true]) ∧ LkO w' W.heap.size v' 0 m ls ∧ Below W.heap.size W w')  :
    Calls Try.prog 8 #[.int .i64 (ls.length : Int), .int .i64 (m : Int)] w fun e w' => e = .returned (.bool true) ∧ Below w.heap.size w w' := by
  have hm50 : m ≤ 50 := by omega
  have cT : ∀ k : Nat, k < m → ∀ v W (hs : LkV W v k m ls), Calls Try.prog 15 #[v] W (TickRes m ls ((k : Int) + 1, (k : Int) + 1, 0) W) := fun k hk v W hs => by
    have := Tick_any v k m ls W hs (by omega)
    rwa [show tickL k m ls = ((k : Int) + 1, (k : Int) + 1, 0) from by
      unfold tickL
      rw [if_pos (hm k (by omega)), if_neg (by simp; omega)]] at this
  have cL : ∀ v W (hs : LkV W v m m ls), Calls Try.prog 15 #[v] W (TickRes m ls ((m : Int), 0, 9) W) := fun v W hs => by
    have := Tick_any v m m ls W hs (by omega)
    rwa [show tickL m m ls = ((m : Int), 0, 9) from by
      unfold tickL
      rw [if_pos (hm m (by omega)), if_pos (by simp)]] at this
  have mL := fun sv W h => lmay_any m m sv ls W h
  rw [hm m (Nat.le_refl _)] at mL
  have sL := fun v1 v2 W h1 h2 => LSame_any v1 v2 m m m m ls ls W h1 h2
  rw [sameL_refl] at sL
  have CT := Lib.hid cT
  clear hm cT h8
  go_enter Try.func8, Try.ntmps8
  have hZ0 : Below w.heap.size w w := Below.refl w.heap.size w
  go_wp2_with fail
  refine (awake_any _).mono ?_
  rintro e w1 ⟨rfl, hb1⟩
  obtain ⟨hc1, hf1⟩ := bcell hb1
  have hz1 := hb1.size
  have hY1 := hZ0.trans (hb1.mono hZ0.size)
  have hZ1 : Below w.heap.size w w1 := hY1
  go_wp2_with fail
  refine (cN _).mono ?_
  rintro e w2 ⟨v2, rfl, hstC, hb2⟩
  obtain ⟨hc2, hf2⟩ := bcell hb2
  have hz2 := hb2.size
  have hY2 := hZ1.trans (hb2.mono hZ1.size)
  replace hstC := hstC.to
  obtain ⟨AC, dC, rfl, hstC⟩ := hstC.form
  go_wp2_with fail
  have hA2 := ((Below.refl w2.heap.size w2).alloc (Nat.le_refl _) (.cells #[.int .i64 0, .int .i64 (m : Int), .slice AC ls.length dC] 24))
  replace hstC := hstC.keep hA2
  have kC := Blk.new_ w2 24 #[.int .i64 0, .int .i64 (m : Int), .slice AC ls.length dC] (w2.heap.size) (by simp)
  have hZ2 : Below w.heap.size w _ := hY2.trans (hA2.mono hY2.size)
  have z2 : w.heap.size ≤ w2.heap.size := hY2.size
  have BI := Lib.hid hZ2
  have KI := Lib.hid kC
  have LI := Lib.hid hstC
  clear hZ2 kC hstC hA2 hY2 hb2 hb1 hc1 hc2 hf1 hf2 hZ0 hZ1 hY1 cN
  go_loopg [8] m (fun gg s8 wr => ∃ (k : Nat) (A : Option Addr) (c : Nat), k ≤ m ∧ m - k ≤ gg ∧ s8 = .int .i64 k ∧ Hid (Below w.heap.size w wr) ∧ Hid (Blk wr w2.heap.size 24 #[.int .i64 (k : Int), .int .i64 (m : Int), .slice A ls.length c]) ∧ Hid (LkV wr (.agg #[.int .i64 (k : Int), .int .i64 (m : Int), .slice A ls.length c]) k m ls))
  case atStart => exact ⟨0, AC, dC, Nat.zero_le _, by omega, rfl, BI.out, KI.out, LI.out⟩
  case round =>
    obtain ⟨k, A, c, hkm, hg, rfl, BW, KW, LW⟩ := hrel
    have kC := KW.out
    have hst := LW.out
    have l0 := kC.lt
    have c0 : wr.cell? ⟨w2.heap.size, 0, none⟩ = some (.int .i64 (k : Int)) := by rw [kC.cell]; rfl
    have c1 : wr.cell? ⟨w2.heap.size, 1, none⟩ = some (.int .i64 (m : Int)) := by rw [kC.cell]; rfl
    have c2 : wr.cell? ⟨w2.heap.size, 2, none⟩ = some (.slice A ls.length c) := by rw [kC.cell]; rfl
    have f0 : wr.frozen? ⟨w2.heap.size, 0, none⟩ = false := kC.free 0
    have f1 : wr.frozen? ⟨w2.heap.size, 1, none⟩ = false := kC.free 1
    have f2 : wr.frozen? ⟨w2.heap.size, 2, none⟩ = false := kC.free 2
    by_cases hlt : k < m
    · have hltz : (k : Int) < (m : Int) := by omega
      have hT := CT.out k hlt
      clear CT cL mL sL
      go_wp2_with fail
      refine (hT _ _ hst).mono ?_
      rintro e w1' ⟨v1, rfl, hst1, hb1⟩
      dsimp only at hst1
      obtain ⟨sv, rfl, hrow⟩ := hst1
      obtain ⟨A', c', rfl, _, _⟩ := (Sl.of_own hrow).form
      obtain ⟨hc1, hf1⟩ := bcell hb1
      have hz1 := hb1.size
      replace kC := kC.keep hb1
      have l1 : w2.heap.size < w1'.heap.size := by omega
      have hne : ¬ w1'.heap.size = w2.heap.size := by omega
      have hne' : ¬ w2.heap.size = w1'.heap.size := by omega
      have HR := Lib.hid hrow
      have HB := Lib.hid hb1
      clear hrow hst hT hb1
      go_wp2
      go_roundg (m - (k + 1))
      case measure => omega
      case rel =>
        refine ⟨k + 1, A', c', by omega, by omega, by go_num, (show Below _ _ _ from ?_), (show Blk _ _ _ _ from ?_), (show LkV _ _ _ _ _ from ?_)⟩
        · exact ((((BW.out.trans (HB.out.mono BW.out.size)).setCell (p := ⟨w2.heap.size, 0, none⟩) (by simpa using z2) _).setCell (p := ⟨w2.heap.size, 1, none⟩) (by simpa using z2) _).setCell (p := ⟨w2.heap.size, 2, none⟩) (by simpa using z2) _).alloc (by simp only [World.size_setCell]; exact Nat.le_trans BW.out.size HB.out.size) _
        · exact (((kC.set_ 0 _).set_ 1 _).set_ 2 _).alloc _
        · exact ⟨_, rfl, Sl.of_own (own_below (ownsRow_setCell_below (ownsRow_setCell_below (ownsRow_setCell_below HR.out (a := ⟨w2.heap.size, 0, none⟩) (by simp; omega) _) (a := ⟨w2.heap.size, 1, none⟩) (by simp; omega) _) (a := ⟨w2.heap.size, 2, none⟩) (by simp; omega) _) ((Below.refl _ _).alloc (Nat.le_refl _) _))⟩
    · obtain rfl : m = k := by omega
      have hltz : ¬ (m : Int) < (m : Int) := by omega
      clear CT
      go_wp2_with fail
      refine (cL _ _ hst).mono ?_
      rintro e w3 ⟨v3, rfl, hstD, hb3⟩
      replace hstD := hstD.to
      dsimp only at hstD
      obtain ⟨AD, dD, rfl, hstD⟩ := hstD.form
      obtain ⟨hc3, hf3⟩ := bcell hb3
      have hz3 := hb3.size
      have hY3 := BW.out.trans (hb3.mono BW.out.size)
      replace hst := hst.keep hb3
      replace kC := kC.keep hb3
      have z3 : w2.heap.size < w3.heap.size := by omega
      have hA3 := ((Below.refl w3.heap.size w3).alloc (Nat.le_refl _) (.cells #[.int .i64 (m : Int), .int .i64 (m : Int), .slice AD ls.length dD] 24))
      have hZ3 := hY3.trans (hA3.mono hY3.size)
      go_wp2_with fail
      refine (sL _ _ _ (hstD.keep hA3) (hst.keep hA3)).mono ?_
      rintro e w4 ⟨rfl, hb4⟩
      obtain ⟨hc4, hf4⟩ := bcell hb4
      have hz4 := hb4.size
      simp at hz4
      have hY4 := hZ3.trans (hb4.mono hZ3.size)
      replace hst := (hst.keep hA3).keep hb4
      have z4 : w2.heap.size < w4.heap.size := by omega
      go_wp2_with fail
      refine (mL _ _ hst.sl).mono ?_
      rintro e w5 ⟨rfl, hb5⟩
      obtain ⟨hc5, hf5⟩ := bcell hb5
      have hY5 := hY4.trans (hb5.mono hY4.size)
      go_wp2
      go_ret
      exact ⟨rfl, hY5⟩

theorem lockClock_walk (w : World) (n : Int) (_w1 : (Lit.int .i64 n).wf = true) (m : Int) (_w2 : (Lit.int .i64 m).wf = true) :
    Calls Try.prog 8 #[.int .i64 n, .int .i64 m] w fun e w' => e = .returned (.bool true) ∧ Below w.heap.size w w' := by
  by_cases h1 : n < 1
  · exact clock_no0 w n m h1
  by_cases h2 : 8 < n
  · exact clock_no1 w n m h1 h2
  by_cases h3 : m < 0
  · exact clock_no2 w n m h1 h2 h3
  by_cases h4 : 1000 < m
  · exact clock_no3 w n m h1 h2 h3 h4
  obtain ⟨n, rfl⟩ := Int.eq_ofNat_of_zero_le (show 0 ≤ n by omega)
  obtain ⟨m, rfl⟩ := Int.eq_ofNat_of_zero_le (show 0 ≤ m by omega)
  have hl : (List.replicate n (⟨0, -1⟩ : Lk)).length = n := by simp
  have cN := fun W : World => LNew_yes n m W (by omega) (by omega) (by omega) (by omega)
  have hm : ∀ k : Nat, k ≤ m → mayL k m (List.replicate n (⟨0, -1⟩ : Lk)) = true := by
    intro k hk
    rw [may_iff]
    refine ⟨by omega, by omega, by omega, by rw [hl]; omega, by rw [hl]; omega, fun x hx => ?_⟩
    rw [List.mem_replicate] at hx
    rw [hx.2]
    exact ⟨Int.le_refl _, by show (0 : Int) ≤ k; omega, Int.le_refl _, by show (-1 : Int) < 4; omega⟩
  have h8 : (List.replicate n (⟨0, -1⟩ : Lk)).length ≤ 8 := by rw [hl]; omega
  generalize List.replicate n (⟨0, -1⟩ : Lk) = ls at *
  subst hl
  by_cases h50 : 50 < (m : Int)
  · exact clock_more w ls m h50 cN
  · exact clock_main w ls m h50 h8 hm cN

end Go.Proofs.Ytkmdifngljdpeaa
