/- lock.hand: free, take, give. -/
import Derived.Test.YtmcbnpeihedcaaaLkMay
import Derived.RegionTactic
import Derived.Deep.RegionHeld3
import Derived.Deep.DrawnRows
namespace Go.Proofs.Ytmcbnpeihedcaaa
set_option linter.unusedSimpArgs false
open Go Go.RowKit
attribute [local go_sem ↓] Go.wp_at_zero Go.wp_at_succ

/-- Is a lock theirs, or nobody's? -/
def freeH (who : Int) (x : Lk) : Bool := x.o == -1 || x.o == who

set_option maxHeartbeats 400000 in
theorem hfree_any (who ver : Int) (x : Lk) (w : World) :
    Calls Try.prog 76 #[.agg #[.int .i64 who, .int .i64 ver], .agg (encL x).toArray] w fun e w' => e = .returned (.bool (freeH who x)) ∧ Below w.heap.size w w' := by
  simp only [encL]
  have hb0 := ((Below.refl _ w).alloc (Nat.le_refl _) (.cells #[.int .i64 who, .int .i64 ver] 116)).alloc (by simp) (.cells #[.int .i64 x.v, .int .i64 x.o] 50)
  cases h1 : (x.o == -1) with
  | true =>
    rw [show freeH who x = true from by simp [freeH, h1]]
    go_enter Try.func76, Try.ntmps76
    go_wp2
    go_ret
    exact ⟨rfl, hb0⟩
  | false =>
    rw [show freeH who x = (x.o == who) from by simp [freeH, h1]]
    go_enter Try.func76, Try.ntmps76
    go_wp2
    go_ret
    exact ⟨rfl, hb0⟩

set_option maxHeartbeats 1000000 in
theorem htake_yes (who ver : Int) (x : Lk) (g o : Nat) (w : World) (h0 : w.cell? ⟨g, o, none⟩ = some (.int .i64 x.v)) (h1 : w.cell? ⟨g, o + 1, none⟩ = some (.int .i64 x.o)) (hf : w.frozen? ⟨g, o + 1, none⟩ = false) (hg : g < w.heap.size)
    (hq : freeH who x = true) :
    Calls Try.prog 72 #[.agg #[.int .i64 who, .int .i64 ver], .pointer (some ⟨g, o, none⟩)] w fun e w' => ∃ w1, e = .returned (.int .i64 0) ∧ Below w.heap.size w w1 ∧ w' = w1.setCell ⟨g, o + 1, none⟩ (.int .i64 who) := by
  have hfr := fun w => hfree_any who ver x w
  rw [hq] at hfr
  simp only [encL] at hfr
  clear hq
  have hb0 := (Below.refl _ w).alloc (Nat.le_refl _) (.cells #[.int .i64 who, .int .i64 ver] 116)
  go_enter Try.func72, Try.ntmps72
  go_wp2_with fail
  have hA0 : Blk (w.alloc (.cells #[.int .i64 who, .int .i64 ver] 116)) w.heap.size 116 #[.int .i64 who, .int .i64 ver] := Blk.new_ w _ _ _ rfl
  obtain ⟨w1, hw1⟩ : ∃ x, w.alloc (.cells #[.int .i64 who, .int .i64 ver] 116) = x := ⟨_, rfl⟩
  rw [hw1] at hA0 hb0 ⊢
  have k0 : w1.cell? ⟨w.heap.size, 0, none⟩ = some (.int .i64 who) := by rw [hA0.cell]; rfl
  have k1 : w1.cell? ⟨w.heap.size, 1, none⟩ = some (.int .i64 ver) := by rw [hA0.cell]; rfl
  have k2 : w1.cell? ⟨g, o, none⟩ = some (.int .i64 x.v) := (hb0.cell (p := ⟨g, o, none⟩) hg).trans h0
  have k3 : w1.cell? ⟨g, o + 1, none⟩ = some (.int .i64 x.o) := (hb0.cell (p := ⟨g, o + 1, none⟩) hg).trans h1
  have l1 := hA0.lt
  have l2 : g < w1.heap.size := Nat.lt_of_lt_of_le hg hb0.size
  have BW := (Below.refl w1.heap.size w1).drew
  go_region_held3 (fun w' => w'.cell? ⟨w.heap.size, 0, none⟩ = some (.int .i64 who) ∧ w'.cell? ⟨w.heap.size, 1, none⟩ = some (.int .i64 ver) ∧ w'.cell? ⟨g, o, none⟩ = some (.int .i64 x.v) ∧ w'.cell? ⟨g, o + 1, none⟩ = some (.int .i64 x.o) ∧ Below w1.heap.size w1 w')
    (first | exact ⟨(BW.cell (p := ⟨w.heap.size, 0, none⟩) l1).trans k0, (BW.cell (p := ⟨w.heap.size, 1, none⟩) l1).trans k1, (BW.cell (p := ⟨g, o, none⟩) l2).trans k2, (BW.cell (p := ⟨g, o + 1, none⟩) l2).trans k3, BW⟩ | exact ⟨(hX.cell (p := ⟨w.heap.size, 0, none⟩) l1).trans k0, (hX.cell (p := ⟨w.heap.size, 1, none⟩) l1).trans k1, (hX.cell (p := ⟨g, o, none⟩) l2).trans k2, (hX.cell (p := ⟨g, o + 1, none⟩) l2).trans k3, hX⟩)
    (first | (go_at_call 76; refine (hfr _).mono ?_; rintro e w' ⟨rfl, hb'⟩; have hX := BW.trans (hb'.mono BW.size)))
  obtain ⟨w2, hw2⟩ : ∃ x, w' = x := ⟨_, rfl⟩
  rw [hw2] at hX ⊢
  have hY := hb0.trans (hX.mono hb0.size)
  have m0 : w2.cell? ⟨w.heap.size, 0, none⟩ = some (.int .i64 who) := (hX.cell (p := ⟨w.heap.size, 0, none⟩) l1).trans k0
  have hff : w2.frozen? ⟨g, o + 1, none⟩ = w.frozen? ⟨g, o + 1, none⟩ := hY.frozen (p := ⟨g, o + 1, none⟩) hg
  have hcc : w2.cell? ⟨g, o + 1, none⟩ = some (.int .i64 x.o) := (hY.cell (p := ⟨g, o + 1, none⟩) hg).trans h1
  go_wp2
  go_ret
  exact ⟨w2, rfl, hY, rfl⟩

set_option maxHeartbeats 1000000 in
theorem htake_no (who ver : Int) (x : Lk) (g o : Nat) (w : World) (h0 : w.cell? ⟨g, o, none⟩ = some (.int .i64 x.v)) (h1 : w.cell? ⟨g, o + 1, none⟩ = some (.int .i64 x.o)) (hg : g < w.heap.size)
    (hq : freeH who x = false) :
    Calls Try.prog 72 #[.agg #[.int .i64 who, .int .i64 ver], .pointer (some ⟨g, o, none⟩)] w fun e w' => e = .returned (.int .i64 10) ∧ Below w.heap.size w w' := by
  have hfr := fun w => hfree_any who ver x w
  rw [hq] at hfr
  simp only [encL] at hfr
  clear hq
  have hf : True := trivial
  have hb0 := (Below.refl _ w).alloc (Nat.le_refl _) (.cells #[.int .i64 who, .int .i64 ver] 116)
  go_enter Try.func72, Try.ntmps72
  go_wp2_with fail
  have hA0 : Blk (w.alloc (.cells #[.int .i64 who, .int .i64 ver] 116)) w.heap.size 116 #[.int .i64 who, .int .i64 ver] := Blk.new_ w _ _ _ rfl
  obtain ⟨w1, hw1⟩ : ∃ x, w.alloc (.cells #[.int .i64 who, .int .i64 ver] 116) = x := ⟨_, rfl⟩
  rw [hw1] at hA0 hb0 ⊢
  have k0 : w1.cell? ⟨w.heap.size, 0, none⟩ = some (.int .i64 who) := by rw [hA0.cell]; rfl
  have k1 : w1.cell? ⟨w.heap.size, 1, none⟩ = some (.int .i64 ver) := by rw [hA0.cell]; rfl
  have k2 : w1.cell? ⟨g, o, none⟩ = some (.int .i64 x.v) := (hb0.cell (p := ⟨g, o, none⟩) hg).trans h0
  have k3 : w1.cell? ⟨g, o + 1, none⟩ = some (.int .i64 x.o) := (hb0.cell (p := ⟨g, o + 1, none⟩) hg).trans h1
  have l1 := hA0.lt
  have l2 : g < w1.heap.size := Nat.lt_of_lt_of_le hg hb0.size
  have BW := (Below.refl w1.heap.size w1).drew
  go_region_held3 (fun w' => w'.cell? ⟨w.heap.size, 0, none⟩ = some (.int .i64 who) ∧ w'.cell? ⟨w.heap.size, 1, none⟩ = some (.int .i64 ver) ∧ w'.cell? ⟨g, o, none⟩ = some (.int .i64 x.v) ∧ w'.cell? ⟨g, o + 1, none⟩ = some (.int .i64 x.o) ∧ Below w1.heap.size w1 w')
    (first | exact ⟨(BW.cell (p := ⟨w.heap.size, 0, none⟩) l1).trans k0, (BW.cell (p := ⟨w.heap.size, 1, none⟩) l1).trans k1, (BW.cell (p := ⟨g, o, none⟩) l2).trans k2, (BW.cell (p := ⟨g, o + 1, none⟩) l2).trans k3, BW⟩ | exact ⟨(hX.cell (p := ⟨w.heap.size, 0, none⟩) l1).trans k0, (hX.cell (p := ⟨w.heap.size, 1, none⟩) l1).trans k1, (hX.cell (p := ⟨g, o, none⟩) l2).trans k2, (hX.cell (p := ⟨g, o + 1, none⟩) l2).trans k3, hX⟩)
    (first | (go_at_call 76; refine (hfr _).mono ?_; rintro e w' ⟨rfl, hb'⟩; have hX := BW.trans (hb'.mono BW.size)))
  obtain ⟨w2, hw2⟩ : ∃ x, w' = x := ⟨_, rfl⟩
  rw [hw2] at hX ⊢
  have hY := hb0.trans (hX.mono hb0.size)
  have m0 : w2.cell? ⟨w.heap.size, 0, none⟩ = some (.int .i64 who) := (hX.cell (p := ⟨w.heap.size, 0, none⟩) l1).trans k0
  have hff : w2.frozen? ⟨g, o + 1, none⟩ = w.frozen? ⟨g, o + 1, none⟩ := hY.frozen (p := ⟨g, o + 1, none⟩) hg
  have hcc : w2.cell? ⟨g, o + 1, none⟩ = some (.int .i64 x.o) := (hY.cell (p := ⟨g, o + 1, none⟩) hg).trans h1
  go_wp2
  go_ret
  exact ⟨rfl, hY⟩
end Go.Proofs.Ytmcbnpeihedcaaa
