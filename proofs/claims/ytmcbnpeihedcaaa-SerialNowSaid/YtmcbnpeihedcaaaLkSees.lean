/- lock.Same, Sees, Tick. -/
import Derived.Test.YtmcbnpeihedcaaaLkRepeat
namespace Go.Proofs.Ytmcbnpeihedcaaa
set_option linter.unusedSimpArgs false
open Go Go.RowKit
set_option linter.unusedVariables false
attribute [local go_sem ↓] Go.wp_at_zero Go.wp_at_succ

def sameL (n1 m1 : Int) (xs : List Lk) (n2 m2 : Int) (ys : List Lk) : Bool := n1 == n2 && (m1 == m2 && eqL lkEq xs ys)

/-- What Sees comes to. -/
def seesL (now mx : Int) (ls : List Lk) (i ver who : Int) : Bool :=
  if h : mayL now mx ls = true ∧ 0 ≤ i ∧ i < ls.length then freeH who (ls[i.toNat]'(by omega)) && decide ((ls[i.toNat]'(by omega)).v ≤ ver) else false

set_option maxHeartbeats 2000000 in
theorem Sees_any (v : Value) (now mx i ver who : Int) (ls : List Lk) (w : World) (hv : LkV w v now mx ls) :
    Calls Try.prog 61 #[v, .int .i64 i, .int .i64 ver, .int .i64 who] w fun e w' => e = .returned (.bool (seesL now mx ls i ver who)) ∧ Below w.heap.size w w' := by
  obtain ⟨A, c, rfl, hv⟩ := hv.form
  have hb0 : Below w.heap.size w (w.alloc (.cells #[.int .i64 now, .int .i64 mx, .slice A ls.length c] 43)) := (Below.refl _ w).alloc (Nat.le_refl _) _
  have hmay := lmay_any now mx (.slice A ls.length c) ls _ (hv.sl.below hb0)
  cases hm : mayL now mx ls with
  | false =>
    rw [show seesL now mx ls i ver who = false from by simp [seesL, hm]]
    rw [hm] at hmay
    clear hm hv
    go_enter Try.func61, Try.ntmps61
    go_wp2_with (go_at_call 74; refine hmay.mono ?_; rintro e w1 ⟨rfl, hb1⟩)
    go_ret
    exact ⟨rfl, hb0.trans (hb1.mono (by simp))⟩
  | true =>
    rw [hm] at hmay
    by_cases hi : 0 ≤ i ∧ i < (ls.length : Int)
    · obtain ⟨hi0, hi1⟩ := hi
      obtain ⟨k, rfl⟩ := Int.eq_ofNat_of_zero_le hi0
      have hk : k < ls.length := by omega
      have hse : seesL now mx ls k ver who = (freeH who ls[k] && decide (ls[k].v ≤ ver)) := by
        unfold seesL
        rw [dif_pos ⟨hm, hi0, hi1⟩]
        rfl
      rw [hse]
      obtain ⟨b, o, rfl, hlt, hel⟩ := Sl.pos encL encL_len hv.sl (by omega)
      have hel := fun W hW => hel W hW k hk
      have hfr := fun W => hfree_any who 0 ls[k] W
      generalize ls[k] = x at *
      generalize freeH who x = q at *
      simp only [encL] at hfr
      clear hm hse hv hk
      go_enter Try.func61, Try.ntmps61
      go_wp2_with fail
      refine hmay.mono ?_
      rintro e w1 ⟨rfl, hb1⟩
      have hY := hb0.trans (hb1.mono (by simp))
      have kB : Blk w1 w.heap.size 43 #[.int .i64 now, .int .i64 mx, .slice (some ⟨b, o, none⟩) ls.length c] := (Blk.new_ w _ _ _ rfl).keep hb1
      have e0 := hel w1 hY 0 _ rfl
      have e1 := hel w1 hY 1 _ rfl
      simp only [Nat.add_zero] at e0
      have hlt1 : b < w1.heap.size := Nat.lt_of_lt_of_le hlt hY.size
      have l0 := kB.lt
      clear hmay
      have s0 : w1.cell? ⟨w.heap.size, 0, none⟩ = some (.int .i64 now) := by rw [kB.cell]; rfl
      have s1 : w1.cell? ⟨w.heap.size, 1, none⟩ = some (.int .i64 mx) := by rw [kB.cell]; rfl
      have s2 : w1.cell? ⟨w.heap.size, 2, none⟩ = some (.slice (some ⟨b, o, none⟩) ls.length c) := by rw [kB.cell]; rfl
      have sf0 : w1.frozen? ⟨w.heap.size, 0, none⟩ = false := kB.free 0
      have sf1 : w1.frozen? ⟨w.heap.size, 1, none⟩ = false := kB.free 1
      have sf2 : w1.frozen? ⟨w.heap.size, 2, none⟩ = false := kB.free 2
      go_wp2_with fail
      refine (hfr _).mono ?_
      rintro e w2 ⟨rfl, hb2⟩
      have f0 := hel w2 (hY.trans (hb2.mono hY.size)) 0 _ rfl
      simp only [Nat.add_zero] at f0
      clear hel hfr
      have t2 := (hb2.cell (p := ⟨w.heap.size, 2, none⟩) l0).trans s2
      cases q with
      | true =>
        go_wp2
        go_ret
        exact ⟨rfl, hY.trans (hb2.mono hY.size)⟩
      | false =>
        go_wp2
        go_ret
        exact ⟨rfl, hY.trans (hb2.mono hY.size)⟩
    · rw [show seesL now mx ls i ver who = false from by unfold seesL; rw [dif_neg (fun h => hi h.2)]]
      clear hm hv
      by_cases hi0 : i < 0
      · clear hi
        go_enter Try.func61, Try.ntmps61
        go_wp2_with (go_at_call 74; refine hmay.mono ?_; rintro e w1 ⟨rfl, hb1⟩)
        go_ret
        exact ⟨rfl, hb0.trans (hb1.mono (by simp))⟩
      · have hi1 : (ls.length : Int) ≤ i := by omega
        clear hi
        go_enter Try.func61, Try.ntmps61
        go_wp2_with fail
        refine hmay.mono ?_
        rintro e w1 ⟨rfl, hb1⟩
        have kB : Blk w1 w.heap.size 43 #[.int .i64 now, .int .i64 mx, .slice A ls.length c] := (Blk.new_ w _ _ _ rfl).keep hb1
        have s0 : w1.cell? ⟨w.heap.size, 0, none⟩ = some (.int .i64 now) := by rw [kB.cell]; rfl
        have s1 : w1.cell? ⟨w.heap.size, 1, none⟩ = some (.int .i64 mx) := by rw [kB.cell]; rfl
        have s2 : w1.cell? ⟨w.heap.size, 2, none⟩ = some (.slice A ls.length c) := by rw [kB.cell]; rfl
        have sf0 : w1.frozen? ⟨w.heap.size, 0, none⟩ = false := kB.free 0
        have sf1 : w1.frozen? ⟨w.heap.size, 1, none⟩ = false := kB.free 1
        have sf2 : w1.frozen? ⟨w.heap.size, 2, none⟩ = false := kB.free 2
        go_wp2
        go_ret
        exact ⟨rfl, hb0.trans (hb1.mono (by simp))⟩
end Go.Proofs.Ytmcbnpeihedcaaa
