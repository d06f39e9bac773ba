/- lock.Tick. -/
import Derived.Test.YtngimbfojccikaaStmTellsC
namespace Go.Proofs.Ytngimbfojccikaa
set_option linter.unusedSimpArgs false
open Go Go.RowKit
set_option linter.unusedVariables false
attribute [local go_sem ↓] Go.wp_at_zero Go.wp_at_succ

/-- What Tick comes to: the clock, what it hands back, the error. -/
def tickL (now mx : Int) (ls : List Lk) : Int × Int × Int := if mayL now mx ls = true then (if (now == mx) = true then (now, 0, 9) else (now + 1, now + 1, 0)) else (now, 0, 1)

def TickRes (mx : Int) (ls : List Lk) (r : Int × Int × Int) (w : World) (e : Ending) (w' : World) : Prop :=
  ∃ v', e = .returned (.tuple #[v', .int .i64 r.2.1, .int .i64 r.2.2]) ∧ LkO w' w.heap.size v' r.1 mx ls ∧ Below w.heap.size w w'

theorem lmay_bd {now mx : Int} {ls : List Lk} (h : mayL now mx ls = true) : mx ≤ 1000 ∧ 0 ≤ now ∧ now ≤ mx ∧ 0 < ls.length ∧ ls.length ≤ 8 := by
  simp [mayL] at h
  exact ⟨h.1, h.2.1, h.2.2.1, by have := h.2.2.2.1; cases ls <;> simp_all, h.2.2.2.2.1⟩

set_option maxRecDepth 100000 in
set_option maxHeartbeats 4000000 in
theorem Tick_any (v : Value) (now mx : Int) (ls : List Lk) (w : World) (hv : LkV w v now mx ls) (hn : ls.length ≤ 1000) :
    Calls Try.prog 66 #[v] w (TickRes mx ls (tickL now mx ls) w) := by
  obtain ⟨A, c, rfl, hv⟩ := hv.form
  have hb0 : Below w.heap.size w ((w.alloc (.cells #[.int .i64 now, .int .i64 mx, .slice A ls.length c] 30)).alloc (.cells #[.int .i64 0, .int .i64 0, .slice none 0 0] 30)) := ((Below.refl _ w).alloc (Nat.le_refl _) _).alloc (by simp) _
  have hcl := clone_lock (.slice A ls.length c) ls.length (ls.flatMap encL) _ (hv.sl.below hb0) (flat_one ls) (by omega)
  have hmay := fun sv W h => lmay_any now mx sv ls W h
  have hbd := fun h => lmay_bd (now := now) (mx := mx) (ls := ls) h
  clear hv hn
  cases hm : mayL now mx ls with
  | false =>
    rw [show tickL now mx ls = (now, 0, 1) from by simp [tickL, hm]]
    rw [hm] at hmay
    clear hbd hm
    go_enter Try.func66, Try.ntmps66
    go_wp2_with fail
    refine hcl.mono ?_
    rintro e w1 ⟨v1, rfl, hr1, hb1⟩
    obtain ⟨A1, c1, rfl, _, _⟩ := (Sl.of_own hr1).form
    have hY1 := hb0.trans (hb1.mono (by simp; omega))
    have hz1 := hb1.size
    simp only [World.size_alloc] at hz1
    have kB0 : Blk w1 w.heap.size 30 #[.int .i64 now, .int .i64 mx, .slice A ls.length c] := ((Blk.new_ w _ _ _ rfl).alloc _).keep hb1
    have kB1 : Blk w1 (w.heap.size + 1) 30 #[.int .i64 0, .int .i64 0, .slice none 0 0] := (Blk.new_ _ _ _ _ (by simp)).keep hb1
    have p0 : w1.cell? ⟨w.heap.size, 0, none⟩ = some (.int .i64 now) := by rw [kB0.cell]; rfl
    have p1 : w1.cell? ⟨w.heap.size, 1, none⟩ = some (.int .i64 mx) := by rw [kB0.cell]; rfl
    have p2 : w1.cell? ⟨w.heap.size, 2, none⟩ = some (.slice A ls.length c) := by rw [kB0.cell]; rfl
    have pf0 : w1.frozen? ⟨w.heap.size, 0, none⟩ = false := kB0.free 0
    have pf1 : w1.frozen? ⟨w.heap.size, 1, none⟩ = false := kB0.free 1
    have pf2 : w1.frozen? ⟨w.heap.size, 2, none⟩ = false := kB0.free 2
    have q0 : w1.cell? ⟨w.heap.size + 1, 0, none⟩ = some (.int .i64 0) := by rw [kB1.cell]; rfl
    have q1 : w1.cell? ⟨w.heap.size + 1, 1, none⟩ = some (.int .i64 0) := by rw [kB1.cell]; rfl
    have q2 : w1.cell? ⟨w.heap.size + 1, 2, none⟩ = some (.slice none 0 0) := by rw [kB1.cell]; rfl
    have qf0 : w1.frozen? ⟨w.heap.size + 1, 0, none⟩ = false := kB1.free 0
    have qf1 : w1.frozen? ⟨w.heap.size + 1, 1, none⟩ = false := kB1.free 1
    have qf2 : w1.frozen? ⟨w.heap.size + 1, 2, none⟩ = false := kB1.free 2
    go_wp2_with fail
    have hs1 : Sl (w1.setCell ⟨w.heap.size, 2, none⟩ (.slice A1 ls.length c1)) 2 (.slice A1 ls.length c1) ls.length (ls.flatMap encL) := Sl.of_own (ownsRow_setCell_below hr1 (by first | (simp; done) | (simp; omega)) _)
    refine (hmay _ _ hs1).mono ?_
    rintro e w2 ⟨rfl, hb2⟩
    have hY2 := (hY1.setCell (p := ⟨w.heap.size, 2, none⟩) (Nat.le_refl _) (.slice A1 ls.length c1)).trans (hb2.mono (by simp [World.setCell]; omega))
    have kC0 : Blk w2 w.heap.size 30 #[.int .i64 now, .int .i64 mx, .slice A1 ls.length c1] := (kB0.set_ 2 _).keep hb2
    have kC1 : Blk w2 (w.heap.size + 1) 30 #[.int .i64 0, .int .i64 0, .slice none 0 0] := (kB1.far (by simp) _).keep hb2
    have hr2 : RowL w2 (w.heap.size + 2) (.slice A1 ls.length c1) ls := own_below (ownsRow_mono (ownsRow_setCell_below hr1 (by first | (simp; done) | (simp; omega)) _) (by simp)) hb2
    have hz2 := hb2.size
    simp only [World.size_setCell] at hz2
    clear kB0 kB1 hr1 hs1
    have s0 : w2.cell? ⟨w.heap.size, 0, none⟩ = some (.int .i64 now) := by rw [kC0.cell]; rfl
    have s1 : w2.cell? ⟨w.heap.size, 1, none⟩ = some (.int .i64 mx) := by rw [kC0.cell]; rfl
    have s2 : w2.cell? ⟨w.heap.size, 2, none⟩ = some (.slice A1 ls.length c1) := by rw [kC0.cell]; rfl
    have sf0 : w2.frozen? ⟨w.heap.size, 0, none⟩ = false := kC0.free 0
    have sf1 : w2.frozen? ⟨w.heap.size, 1, none⟩ = false := kC0.free 1
    have sf2 : w2.frozen? ⟨w.heap.size, 2, none⟩ = false := kC0.free 2
    have t0 : w2.cell? ⟨w.heap.size + 1, 0, none⟩ = some (.int .i64 0) := by rw [kC1.cell]; rfl
    have t1 : w2.cell? ⟨w.heap.size + 1, 1, none⟩ = some (.int .i64 0) := by rw [kC1.cell]; rfl
    have t2 : w2.cell? ⟨w.heap.size + 1, 2, none⟩ = some (.slice none 0 0) := by rw [kC1.cell]; rfl
    have tf0 : w2.frozen? ⟨w.heap.size + 1, 0, none⟩ = false := kC1.free 0
    have tf1 : w2.frozen? ⟨w.heap.size + 1, 1, none⟩ = false := kC1.free 1
    have tf2 : w2.frozen? ⟨w.heap.size + 1, 2, none⟩ = false := kC1.free 2
    go_wp2
    refine bodyPost_ret (v := .tuple #[.agg #[.int .i64 now, .int .i64 mx, .slice A1 ls.length c1], .int .i64 0, .int .i64 1]) (by simp [results, Try.results66, go_sem, t0, t1, t2]) rfl ⟨_, rfl, ⟨_, rfl, ?_⟩, ?_⟩
    · exact ownsRow_mono (ownsRow_setCell_below (ownsRow_setCell_below (ownsRow_setCell_below hr2 (by first | (simp; done) | (simp; omega)) _) (by first | (simp; done) | (simp; omega)) _) (by first | (simp; done) | (simp; omega)) _) (by omega)
    · exact ((hY2.setCell (by simp) _).setCell (by simp) _).setCell (by simp) _
  | true =>
    obtain ⟨x1, x2, x3, _, _⟩ := hbd hm
    rw [hm] at hmay
    cases he : (now == mx) with
    | true =>
      rw [show tickL now mx ls = (now, 0, 9) from by simp [tickL, hm, he]]
      clear hbd hm
      go_enter Try.func66, Try.ntmps66
      go_wp2_with fail
      refine hcl.mono ?_
      rintro e w1 ⟨v1, rfl, hr1, hb1⟩
      obtain ⟨A1, c1, rfl, _, _⟩ := (Sl.of_own hr1).form
      have hY1 := hb0.trans (hb1.mono (by simp; omega))
      have hz1 := hb1.size
      simp only [World.size_alloc] at hz1
      have kB0 : Blk w1 w.heap.size 30 #[.int .i64 now, .int .i64 mx, .slice A ls.length c] := ((Blk.new_ w _ _ _ rfl).alloc _).keep hb1
      have kB1 : Blk w1 (w.heap.size + 1) 30 #[.int .i64 0, .int .i64 0, .slice none 0 0] := (Blk.new_ _ _ _ _ (by simp)).keep hb1
      have p0 : w1.cell? ⟨w.heap.size, 0, none⟩ = some (.int .i64 now) := by rw [kB0.cell]; rfl
      have p1 : w1.cell? ⟨w.heap.size, 1, none⟩ = some (.int .i64 mx) := by rw [kB0.cell]; rfl
      have p2 : w1.cell? ⟨w.heap.size, 2, none⟩ = some (.slice A ls.length c) := by rw [kB0.cell]; rfl
      have pf0 : w1.frozen? ⟨w.heap.size, 0, none⟩ = false := kB0.free 0
      have pf1 : w1.frozen? ⟨w.heap.size, 1, none⟩ = false := kB0.free 1
      have pf2 : w1.frozen? ⟨w.heap.size, 2, none⟩ = false := kB0.free 2
      have q0 : w1.cell? ⟨w.heap.size + 1, 0, none⟩ = some (.int .i64 0) := by rw [kB1.cell]; rfl
      have q1 : w1.cell? ⟨w.heap.size + 1, 1, none⟩ = some (.int .i64 0) := by rw [kB1.cell]; rfl
      have q2 : w1.cell? ⟨w.heap.size + 1, 2, none⟩ = some (.slice none 0 0) := by rw [kB1.cell]; rfl
      have qf0 : w1.frozen? ⟨w.heap.size + 1, 0, none⟩ = false := kB1.free 0
      have qf1 : w1.frozen? ⟨w.heap.size + 1, 1, none⟩ = false := kB1.free 1
      have qf2 : w1.frozen? ⟨w.heap.size + 1, 2, none⟩ = false := kB1.free 2
      go_wp2_with fail
      have hs1 : Sl (w1.setCell ⟨w.heap.size, 2, none⟩ (.slice A1 ls.length c1)) 2 (.slice A1 ls.length c1) ls.length (ls.flatMap encL) := Sl.of_own (ownsRow_setCell_below hr1 (by first | (simp; done) | (simp; omega)) _)
      refine (hmay _ _ hs1).mono ?_
      rintro e w2 ⟨rfl, hb2⟩
      have hY2 := (hY1.setCell (p := ⟨w.heap.size, 2, none⟩) (Nat.le_refl _) (.slice A1 ls.length c1)).trans (hb2.mono (by simp [World.setCell]; omega))
      have kC0 : Blk w2 w.heap.size 30 #[.int .i64 now, .int .i64 mx, .slice A1 ls.length c1] := (kB0.set_ 2 _).keep hb2
      have kC1 : Blk w2 (w.heap.size + 1) 30 #[.int .i64 0, .int .i64 0, .slice none 0 0] := (kB1.far (by simp) _).keep hb2
      have hr2 : RowL w2 (w.heap.size + 2) (.slice A1 ls.length c1) ls := own_below (ownsRow_mono (ownsRow_setCell_below hr1 (by first | (simp; done) | (simp; omega)) _) (by simp)) hb2
      have hz2 := hb2.size
      simp only [World.size_setCell] at hz2
      clear kB0 kB1 hr1 hs1
      have s0 : w2.cell? ⟨w.heap.size, 0, none⟩ = some (.int .i64 now) := by rw [kC0.cell]; rfl
      have s1 : w2.cell? ⟨w.heap.size, 1, none⟩ = some (.int .i64 mx) := by rw [kC0.cell]; rfl
      have s2 : w2.cell? ⟨w.heap.size, 2, none⟩ = some (.slice A1 ls.length c1) := by rw [kC0.cell]; rfl
      have sf0 : w2.frozen? ⟨w.heap.size, 0, none⟩ = false := kC0.free 0
      have sf1 : w2.frozen? ⟨w.heap.size, 1, none⟩ = false := kC0.free 1
      have sf2 : w2.frozen? ⟨w.heap.size, 2, none⟩ = false := kC0.free 2
      have t0 : w2.cell? ⟨w.heap.size + 1, 0, none⟩ = some (.int .i64 0) := by rw [kC1.cell]; rfl
      have t1 : w2.cell? ⟨w.heap.size + 1, 1, none⟩ = some (.int .i64 0) := by rw [kC1.cell]; rfl
      have t2 : w2.cell? ⟨w.heap.size + 1, 2, none⟩ = some (.slice none 0 0) := by rw [kC1.cell]; rfl
      have tf0 : w2.frozen? ⟨w.heap.size + 1, 0, none⟩ = false := kC1.free 0
      have tf1 : w2.frozen? ⟨w.heap.size + 1, 1, none⟩ = false := kC1.free 1
      have tf2 : w2.frozen? ⟨w.heap.size + 1, 2, none⟩ = false := kC1.free 2
      go_wp2
      refine bodyPost_ret (v := .tuple #[.agg #[.int .i64 now, .int .i64 mx, .slice A1 ls.length c1], .int .i64 0, .int .i64 9]) (by simp [results, Try.results66, go_sem, t0, t1, t2]) rfl ⟨_, rfl, ⟨_, rfl, ?_⟩, ?_⟩
      · exact ownsRow_mono (ownsRow_setCell_below (ownsRow_setCell_below (ownsRow_setCell_below hr2 (by first | (simp; done) | (simp; omega)) _) (by first | (simp; done) | (simp; omega)) _) (by first | (simp; done) | (simp; omega)) _) (by omega)
      · exact ((hY2.setCell (by simp) _).setCell (by simp) _).setCell (by simp) _
    | false =>
      rw [show tickL now mx ls = (now + 1, now + 1, 0) from by simp [tickL, hm, he]]
      clear hbd hm
      go_enter Try.func66, Try.ntmps66
      go_wp2_with fail
      refine hcl.mono ?_
      rintro e w1 ⟨v1, rfl, hr1, hb1⟩
      obtain ⟨A1, c1, rfl, _, _⟩ := (Sl.of_own hr1).form
      have hY1 := hb0.trans (hb1.mono (by simp; omega))
      have hz1 := hb1.size
      simp only [World.size_alloc] at hz1
      have kB0 : Blk w1 w.heap.size 30 #[.int .i64 now, .int .i64 mx, .slice A ls.length c] := ((Blk.new_ w _ _ _ rfl).alloc _).keep hb1
      have kB1 : Blk w1 (w.heap.size + 1) 30 #[.int .i64 0, .int .i64 0, .slice none 0 0] := (Blk.new_ _ _ _ _ (by simp)).keep hb1
      have p0 : w1.cell? ⟨w.heap.size, 0, none⟩ = some (.int .i64 now) := by rw [kB0.cell]; rfl
      have p1 : w1.cell? ⟨w.heap.size, 1, none⟩ = some (.int .i64 mx) := by rw [kB0.cell]; rfl
      have p2 : w1.cell? ⟨w.heap.size, 2, none⟩ = some (.slice A ls.length c) := by rw [kB0.cell]; rfl
      have pf0 : w1.frozen? ⟨w.heap.size, 0, none⟩ = false := kB0.free 0
      have pf1 : w1.frozen? ⟨w.heap.size, 1, none⟩ = false := kB0.free 1
      have pf2 : w1.frozen? ⟨w.heap.size, 2, none⟩ = false := kB0.free 2
      have q0 : w1.cell? ⟨w.heap.size + 1, 0, none⟩ = some (.int .i64 0) := by rw [kB1.cell]; rfl
      have q1 : w1.cell? ⟨w.heap.size + 1, 1, none⟩ = some (.int .i64 0) := by rw [kB1.cell]; rfl
      have q2 : w1.cell? ⟨w.heap.size + 1, 2, none⟩ = some (.slice none 0 0) := by rw [kB1.cell]; rfl
      have qf0 : w1.frozen? ⟨w.heap.size + 1, 0, none⟩ = false := kB1.free 0
      have qf1 : w1.frozen? ⟨w.heap.size + 1, 1, none⟩ = false := kB1.free 1
      have qf2 : w1.frozen? ⟨w.heap.size + 1, 2, none⟩ = false := kB1.free 2
      go_wp2_with fail
      have hs1 : Sl (w1.setCell ⟨w.heap.size, 2, none⟩ (.slice A1 ls.length c1)) 2 (.slice A1 ls.length c1) ls.length (ls.flatMap encL) := Sl.of_own (ownsRow_setCell_below hr1 (by first | (simp; done) | (simp; omega)) _)
      refine (hmay _ _ hs1).mono ?_
      rintro e w2 ⟨rfl, hb2⟩
      have hY2 := (hY1.setCell (p := ⟨w.heap.size, 2, none⟩) (Nat.le_refl _) (.slice A1 ls.length c1)).trans (hb2.mono (by simp [World.setCell]; omega))
      have kC0 : Blk w2 w.heap.size 30 #[.int .i64 now, .int .i64 mx, .slice A1 ls.length c1] := (kB0.set_ 2 _).keep hb2
      have kC1 : Blk w2 (w.heap.size + 1) 30 #[.int .i64 0, .int .i64 0, .slice none 0 0] := (kB1.far (by simp) _).keep hb2
      have hr2 : RowL w2 (w.heap.size + 2) (.slice A1 ls.length c1) ls := own_below (ownsRow_mono (ownsRow_setCell_below hr1 (by first | (simp; done) | (simp; omega)) _) (by simp)) hb2
      have hz2 := hb2.size
      simp only [World.size_setCell] at hz2
      clear kB0 kB1 hr1 hs1
      have s0 : w2.cell? ⟨w.heap.size, 0, none⟩ = some (.int .i64 now) := by rw [kC0.cell]; rfl
      have s1 : w2.cell? ⟨w.heap.size, 1, none⟩ = some (.int .i64 mx) := by rw [kC0.cell]; rfl
      have s2 : w2.cell? ⟨w.heap.size, 2, none⟩ = some (.slice A1 ls.length c1) := by rw [kC0.cell]; rfl
      have sf0 : w2.frozen? ⟨w.heap.size, 0, none⟩ = false := kC0.free 0
      have sf1 : w2.frozen? ⟨w.heap.size, 1, none⟩ = false := kC0.free 1
      have sf2 : w2.frozen? ⟨w.heap.size, 2, none⟩ = false := kC0.free 2
      have t0 : w2.cell? ⟨w.heap.size + 1, 0, none⟩ = some (.int .i64 0) := by rw [kC1.cell]; rfl
      have t1 : w2.cell? ⟨w.heap.size + 1, 1, none⟩ = some (.int .i64 0) := by rw [kC1.cell]; rfl
      have t2 : w2.cell? ⟨w.heap.size + 1, 2, none⟩ = some (.slice none 0 0) := by rw [kC1.cell]; rfl
      have tf0 : w2.frozen? ⟨w.heap.size + 1, 0, none⟩ = false := kC1.free 0
      have tf1 : w2.frozen? ⟨w.heap.size + 1, 1, none⟩ = false := kC1.free 1
      have tf2 : w2.frozen? ⟨w.heap.size + 1, 2, none⟩ = false := kC1.free 2
      go_wp2_with fail
      have kD0 := kC0.set_ 0 (.int .i64 (now + 1))
      have kD1 := kC1.far (p := ⟨w.heap.size, 0, none⟩) (by simp) (.int .i64 (now + 1))
      have hr3 := ownsRow_setCell_below hr2 (a := ⟨w.heap.size, 0, none⟩) (by simp) (.int .i64 (now + 1))
      have hY3 := hY2.setCell (p := ⟨w.heap.size, 0, none⟩) (by simp) (.int .i64 (now + 1))
      obtain ⟨w3, hw3⟩ : ∃ x, w2.setCell ⟨w.heap.size, 0, none⟩ (.int .i64 (now + 1)) = x := ⟨_, rfl⟩
      rw [hw3] at kD0 kD1 hr3 hY3 ⊢
      have kD0 : Blk w3 w.heap.size 30 #[.int .i64 (now + 1), .int .i64 mx, .slice A1 ls.length c1] := kD0
      clear hw3 kC0 kC1 hr2 hY2 s0 s1 s2 sf0 sf1 sf2 t0 t1 t2 tf0 tf1 tf2
      have s0 : w3.cell? ⟨w.heap.size, 0, none⟩ = some (.int .i64 (now + 1)) := by rw [kD0.cell]; rfl
      have s1 : w3.cell? ⟨w.heap.size, 1, none⟩ = some (.int .i64 mx) := by rw [kD0.cell]; rfl
      have s2 : w3.cell? ⟨w.heap.size, 2, none⟩ = some (.slice A1 ls.length c1) := by rw [kD0.cell]; rfl
      have sf0 : w3.frozen? ⟨w.heap.size, 0, none⟩ = false := kD0.free 0
      have sf1 : w3.frozen? ⟨w.heap.size, 1, none⟩ = false := kD0.free 1
      have sf2 : w3.frozen? ⟨w.heap.size, 2, none⟩ = false := kD0.free 2
      have t0 : w3.cell? ⟨w.heap.size + 1, 0, none⟩ = some (.int .i64 0) := by rw [kD1.cell]; rfl
      have t1 : w3.cell? ⟨w.heap.size + 1, 1, none⟩ = some (.int .i64 0) := by rw [kD1.cell]; rfl
      have t2 : w3.cell? ⟨w.heap.size + 1, 2, none⟩ = some (.slice none 0 0) := by rw [kD1.cell]; rfl
      have tf0 : w3.frozen? ⟨w.heap.size + 1, 0, none⟩ = false := kD1.free 0
      have tf1 : w3.frozen? ⟨w.heap.size + 1, 1, none⟩ = false := kD1.free 1
      have tf2 : w3.frozen? ⟨w.heap.size + 1, 2, none⟩ = false := kD1.free 2
      refine wp_region_held_drew (S := fun w' => w'.cell? ⟨w.heap.size, 0, none⟩ = some (.int .i64 (now + 1)) ∧ w'.cell? ⟨w.heap.size, 1, none⟩ = some (.int .i64 mx) ∧ w'.cell? ⟨w.heap.size, 2, none⟩ = some (.slice A1 ls.length c1)) (by kernel_rfl) ?_ (fun hbr => ?_)
      · exact ⟨s0, s1, s2⟩
      refine tkA 0 ?_
      refine tkA 1 ?_
      refine tkA 2 ?_
      refine stA 3 (fun K hK => ?_)
      go_simp
      refine hK.out _ _ ?_ (fun hbr3 => ?_)
      · go_keep
      clear hK K hbr
      try simp only [Act.put, List.setIfInBounds_toArray, List.set_cons_zero, List.set_cons_succ]
      refine stA 4 (fun K hK => ?_)
      go_simp
      refine hK.out _ _ ?_ (fun hbr4 => ?_)
      · go_keep
      clear hK K hbr3
      try simp only [Act.put, List.setIfInBounds_toArray, List.set_cons_zero, List.set_cons_succ]
      refine stA 5 (fun K hK => ?_)
      go_simp
      refine hK.out _ _ ?_ (fun hbr5 => ?_)
      · go_keep
      clear hK K hbr4
      try simp only [Act.put, List.setIfInBounds_toArray, List.set_cons_zero, List.set_cons_succ]
      refine wpAnyH_done (by kernel_rfl) ?_ _
      go_wp2
      refine bodyPost_ret (v := .tuple #[.agg #[.int .i64 (now + 1), .int .i64 mx, .slice A1 ls.length c1], .int .i64 (now + 1), .int .i64 0]) (by simp [results, Try.results66, go_sem, t0, t1, t2]) rfl ⟨_, rfl, ⟨_, rfl, ?_⟩, ?_⟩
      · exact ownsRow_mono (ownsRow_setCell_below (ownsRow_setCell_below (ownsRow_setCell_below (own_drew hr3) (by first | (simp; done) | (simp; omega)) _) (by first | (simp; done) | (simp; omega)) _) (by first | (simp; done) | (simp; omega)) _) (by omega)
      · exact ((hY3.drew.setCell (by simp) _).setCell (by simp) _).setCell (by simp) _
end Go.Proofs.Ytngimbfojccikaa
