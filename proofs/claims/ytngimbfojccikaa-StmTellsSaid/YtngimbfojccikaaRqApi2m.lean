/- foliateref18: Give, Tick, Sees. -/
import Derived.Test.YtngimbfojccikaaRqApim
namespace Go.Proofs.Ytngimbfojccikaa
set_option linter.unusedSimpArgs false
open Go Go.RowKit
set_option linter.unusedVariables false
attribute [local go_sem ↓] Go.wp_at_zero Go.wp_at_succ

set_option maxHeartbeats 4000000 in
theorem RGive_any (v : Value) (now mx i who ver : Int) (ls : List Lk) (w : World) (hv : LkV w v now mx ls) (hn : ls.length ≤ 1000) :
    Calls Try.prog 79 #[v, .int .i64 i, .int .i64 who, .int .i64 ver] w (RefRes v now mx ls (giveL now mx ls i who ver) w) := by
  obtain ⟨A, c, rfl, hv⟩ := hv.form
  have hb0 : Below w.heap.size w ((w.alloc (.cells #[.int .i64 now, .int .i64 mx, .slice A ls.length c] 30)).alloc (.cells #[.int .i64 0, .int .i64 0, .slice none 0 0] 30)) := ((Below.refl _ w).alloc (Nat.le_refl _) _).alloc (by simp) _
  have hmay := fun sv W h => rmay_any now mx sv ls W h
  cases hm : mayL now mx ls with
  | false =>
    rw [show giveL now mx ls i who ver = (1, ls) from by unfold giveL doL; rw [hm]; simp]
    rw [hm] at hmay
    clear hm
    go_enter Try.func79, Try.ntmps79
    go_wp2_with fail
    refine (hmay _ _ (hv.sl.below hb0)).mono ?_
    rintro e w1 ⟨rfl, hb1⟩
    have hY := hb0.trans (hb1.mono (by simp; try omega))
    have kA0 : Blk w1 w.heap.size 30 #[.int .i64 now, .int .i64 mx, .slice A ls.length c] := ((Blk.new_ w _ _ _ rfl).alloc _).keep hb1
    have kA1 : Blk w1 (w.heap.size + 1) 30 #[.int .i64 0, .int .i64 0, .slice none 0 0] := (Blk.new_ _ _ _ _ (by simp)).keep hb1
    have la := kA0.lt
    have lb := kA1.lt
    have s0 : w1.cell? ⟨w.heap.size, 0, none⟩ = some (.int .i64 now) := by rw [kA0.cell]; rfl
    have s1 : w1.cell? ⟨w.heap.size, 1, none⟩ = some (.int .i64 mx) := by rw [kA0.cell]; rfl
    have s2 : w1.cell? ⟨w.heap.size, 2, none⟩ = some (.slice A ls.length c) := by rw [kA0.cell]; rfl
    have sf0 : w1.frozen? ⟨w.heap.size, 0, none⟩ = false := kA0.free 0
    have sf1 : w1.frozen? ⟨w.heap.size, 1, none⟩ = false := kA0.free 1
    have sf2 : w1.frozen? ⟨w.heap.size, 2, none⟩ = false := kA0.free 2
    have t0 : w1.cell? ⟨w.heap.size + 1, 0, none⟩ = some (.int .i64 0) := by rw [kA1.cell]; rfl
    have t1 : w1.cell? ⟨w.heap.size + 1, 1, none⟩ = some (.int .i64 0) := by rw [kA1.cell]; rfl
    have t2 : w1.cell? ⟨w.heap.size + 1, 2, none⟩ = some (.slice none 0 0) := by rw [kA1.cell]; rfl
    have tf0 : w1.frozen? ⟨w.heap.size + 1, 0, none⟩ = false := kA1.free 0
    have tf1 : w1.frozen? ⟨w.heap.size + 1, 1, none⟩ = false := kA1.free 1
    have tf2 : w1.frozen? ⟨w.heap.size + 1, 2, none⟩ = false := kA1.free 2
    go_wp2
    refine bodyPost_ret (v := .tuple #[.agg #[.int .i64 now, .int .i64 mx, .slice A ls.length c], .int .i64 1]) (by simp [results, Try.results79, go_sem, t0, t1, t2]) rfl ⟨_, rfl, ?_, fun base hbs h => h.keep (((hY.setCell (p := ⟨w.heap.size + 1, 0, none⟩) (by simp) _).setCell (p := ⟨w.heap.size + 1, 1, none⟩) (by simp) _).setCell (p := ⟨w.heap.size + 1, 2, none⟩) (by simp) _), ?_⟩
    · exact hv.keep (((hY.setCell (p := ⟨w.heap.size + 1, 0, none⟩) (by simp) _).setCell (p := ⟨w.heap.size + 1, 1, none⟩) (by simp) _).setCell (p := ⟨w.heap.size + 1, 2, none⟩) (by simp) _)
    · exact ((hY.setCell (p := ⟨w.heap.size + 1, 0, none⟩) (by simp) _).setCell (p := ⟨w.heap.size + 1, 1, none⟩) (by simp) _).setCell (p := ⟨w.heap.size + 1, 2, none⟩) (by simp) _
  | true =>
    rw [hm] at hmay
    by_cases h0 : who < 0
    · rw [show giveL now mx ls i who ver = (1, ls) from by unfold giveL doL; rw [if_neg (by simp [someB]; omega)]]
      clear hm
      go_enter Try.func79, Try.ntmps79
      go_wp2_with fail
      refine (hmay _ _ (hv.sl.below hb0)).mono ?_
      rintro e w1 ⟨rfl, hb1⟩
      have hY := hb0.trans (hb1.mono (by simp; try omega))
      have kA0 : Blk w1 w.heap.size 30 #[.int .i64 now, .int .i64 mx, .slice A ls.length c] := ((Blk.new_ w _ _ _ rfl).alloc _).keep hb1
      have kA1 : Blk w1 (w.heap.size + 1) 30 #[.int .i64 0, .int .i64 0, .slice none 0 0] := (Blk.new_ _ _ _ _ (by simp)).keep hb1
      have la := kA0.lt
      have lb := kA1.lt
      have s0 : w1.cell? ⟨w.heap.size, 0, none⟩ = some (.int .i64 now) := by rw [kA0.cell]; rfl
      have s1 : w1.cell? ⟨w.heap.size, 1, none⟩ = some (.int .i64 mx) := by rw [kA0.cell]; rfl
      have s2 : w1.cell? ⟨w.heap.size, 2, none⟩ = some (.slice A ls.length c) := by rw [kA0.cell]; rfl
      have sf0 : w1.frozen? ⟨w.heap.size, 0, none⟩ = false := kA0.free 0
      have sf1 : w1.frozen? ⟨w.heap.size, 1, none⟩ = false := kA0.free 1
      have sf2 : w1.frozen? ⟨w.heap.size, 2, none⟩ = false := kA0.free 2
      have t0 : w1.cell? ⟨w.heap.size + 1, 0, none⟩ = some (.int .i64 0) := by rw [kA1.cell]; rfl
      have t1 : w1.cell? ⟨w.heap.size + 1, 1, none⟩ = some (.int .i64 0) := by rw [kA1.cell]; rfl
      have t2 : w1.cell? ⟨w.heap.size + 1, 2, none⟩ = some (.slice none 0 0) := by rw [kA1.cell]; rfl
      have tf0 : w1.frozen? ⟨w.heap.size + 1, 0, none⟩ = false := kA1.free 0
      have tf1 : w1.frozen? ⟨w.heap.size + 1, 1, none⟩ = false := kA1.free 1
      have tf2 : w1.frozen? ⟨w.heap.size + 1, 2, none⟩ = false := kA1.free 2
      go_wp2
      refine bodyPost_ret (v := .tuple #[.agg #[.int .i64 now, .int .i64 mx, .slice A ls.length c], .int .i64 1]) (by simp [results, Try.results79, go_sem, t0, t1, t2]) rfl ⟨_, rfl, ?_, fun base hbs h => h.keep (((hY.setCell (p := ⟨w.heap.size + 1, 0, none⟩) (by simp) _).setCell (p := ⟨w.heap.size + 1, 1, none⟩) (by simp) _).setCell (p := ⟨w.heap.size + 1, 2, none⟩) (by simp) _), ?_⟩
      · exact hv.keep (((hY.setCell (p := ⟨w.heap.size + 1, 0, none⟩) (by simp) _).setCell (p := ⟨w.heap.size + 1, 1, none⟩) (by simp) _).setCell (p := ⟨w.heap.size + 1, 2, none⟩) (by simp) _)
      · exact ((hY.setCell (p := ⟨w.heap.size + 1, 0, none⟩) (by simp) _).setCell (p := ⟨w.heap.size + 1, 1, none⟩) (by simp) _).setCell (p := ⟨w.heap.size + 1, 2, none⟩) (by simp) _
    by_cases h1 : 4 ≤ who
    · rw [show giveL now mx ls i who ver = (1, ls) from by unfold giveL doL; rw [if_neg (by simp [someB]; omega)]]
      clear hm
      go_enter Try.func79, Try.ntmps79
      go_wp2_with fail
      refine (hmay _ _ (hv.sl.below hb0)).mono ?_
      rintro e w1 ⟨rfl, hb1⟩
      have hY := hb0.trans (hb1.mono (by simp; try omega))
      have kA0 : Blk w1 w.heap.size 30 #[.int .i64 now, .int .i64 mx, .slice A ls.length c] := ((Blk.new_ w _ _ _ rfl).alloc _).keep hb1
      have kA1 : Blk w1 (w.heap.size + 1) 30 #[.int .i64 0, .int .i64 0, .slice none 0 0] := (Blk.new_ _ _ _ _ (by simp)).keep hb1
      have la := kA0.lt
      have lb := kA1.lt
      have s0 : w1.cell? ⟨w.heap.size, 0, none⟩ = some (.int .i64 now) := by rw [kA0.cell]; rfl
      have s1 : w1.cell? ⟨w.heap.size, 1, none⟩ = some (.int .i64 mx) := by rw [kA0.cell]; rfl
      have s2 : w1.cell? ⟨w.heap.size, 2, none⟩ = some (.slice A ls.length c) := by rw [kA0.cell]; rfl
      have sf0 : w1.frozen? ⟨w.heap.size, 0, none⟩ = false := kA0.free 0
      have sf1 : w1.frozen? ⟨w.heap.size, 1, none⟩ = false := kA0.free 1
      have sf2 : w1.frozen? ⟨w.heap.size, 2, none⟩ = false := kA0.free 2
      have t0 : w1.cell? ⟨w.heap.size + 1, 0, none⟩ = some (.int .i64 0) := by rw [kA1.cell]; rfl
      have t1 : w1.cell? ⟨w.heap.size + 1, 1, none⟩ = some (.int .i64 0) := by rw [kA1.cell]; rfl
      have t2 : w1.cell? ⟨w.heap.size + 1, 2, none⟩ = some (.slice none 0 0) := by rw [kA1.cell]; rfl
      have tf0 : w1.frozen? ⟨w.heap.size + 1, 0, none⟩ = false := kA1.free 0
      have tf1 : w1.frozen? ⟨w.heap.size + 1, 1, none⟩ = false := kA1.free 1
      have tf2 : w1.frozen? ⟨w.heap.size + 1, 2, none⟩ = false := kA1.free 2
      go_wp2
      refine bodyPost_ret (v := .tuple #[.agg #[.int .i64 now, .int .i64 mx, .slice A ls.length c], .int .i64 1]) (by simp [results, Try.results79, go_sem, t0, t1, t2]) rfl ⟨_, rfl, ?_, fun base hbs h => h.keep (((hY.setCell (p := ⟨w.heap.size + 1, 0, none⟩) (by simp) _).setCell (p := ⟨w.heap.size + 1, 1, none⟩) (by simp) _).setCell (p := ⟨w.heap.size + 1, 2, none⟩) (by simp) _), ?_⟩
      · exact hv.keep (((hY.setCell (p := ⟨w.heap.size + 1, 0, none⟩) (by simp) _).setCell (p := ⟨w.heap.size + 1, 1, none⟩) (by simp) _).setCell (p := ⟨w.heap.size + 1, 2, none⟩) (by simp) _)
      · exact ((hY.setCell (p := ⟨w.heap.size + 1, 0, none⟩) (by simp) _).setCell (p := ⟨w.heap.size + 1, 1, none⟩) (by simp) _).setCell (p := ⟨w.heap.size + 1, 2, none⟩) (by simp) _
    by_cases h2 : ver < -1
    · rw [show giveL now mx ls i who ver = (1, ls) from by unfold giveL doL; rw [if_neg (by simp [someB]; omega)]]
      clear hm
      go_enter Try.func79, Try.ntmps79
      go_wp2_with fail
      refine (hmay _ _ (hv.sl.below hb0)).mono ?_
      rintro e w1 ⟨rfl, hb1⟩
      have hY := hb0.trans (hb1.mono (by simp; try omega))
      have kA0 : Blk w1 w.heap.size 30 #[.int .i64 now, .int .i64 mx, .slice A ls.length c] := ((Blk.new_ w _ _ _ rfl).alloc _).keep hb1
      have kA1 : Blk w1 (w.heap.size + 1) 30 #[.int .i64 0, .int .i64 0, .slice none 0 0] := (Blk.new_ _ _ _ _ (by simp)).keep hb1
      have la := kA0.lt
      have lb := kA1.lt
      have s0 : w1.cell? ⟨w.heap.size, 0, none⟩ = some (.int .i64 now) := by rw [kA0.cell]; rfl
      have s1 : w1.cell? ⟨w.heap.size, 1, none⟩ = some (.int .i64 mx) := by rw [kA0.cell]; rfl
      have s2 : w1.cell? ⟨w.heap.size, 2, none⟩ = some (.slice A ls.length c) := by rw [kA0.cell]; rfl
      have sf0 : w1.frozen? ⟨w.heap.size, 0, none⟩ = false := kA0.free 0
      have sf1 : w1.frozen? ⟨w.heap.size, 1, none⟩ = false := kA0.free 1
      have sf2 : w1.frozen? ⟨w.heap.size, 2, none⟩ = false := kA0.free 2
      have t0 : w1.cell? ⟨w.heap.size + 1, 0, none⟩ = some (.int .i64 0) := by rw [kA1.cell]; rfl
      have t1 : w1.cell? ⟨w.heap.size + 1, 1, none⟩ = some (.int .i64 0) := by rw [kA1.cell]; rfl
      have t2 : w1.cell? ⟨w.heap.size + 1, 2, none⟩ = some (.slice none 0 0) := by rw [kA1.cell]; rfl
      have tf0 : w1.frozen? ⟨w.heap.size + 1, 0, none⟩ = false := kA1.free 0
      have tf1 : w1.frozen? ⟨w.heap.size + 1, 1, none⟩ = false := kA1.free 1
      have tf2 : w1.frozen? ⟨w.heap.size + 1, 2, none⟩ = false := kA1.free 2
      go_wp2
      refine bodyPost_ret (v := .tuple #[.agg #[.int .i64 now, .int .i64 mx, .slice A ls.length c], .int .i64 1]) (by simp [results, Try.results79, go_sem, t0, t1, t2]) rfl ⟨_, rfl, ?_, fun base hbs h => h.keep (((hY.setCell (p := ⟨w.heap.size + 1, 0, none⟩) (by simp) _).setCell (p := ⟨w.heap.size + 1, 1, none⟩) (by simp) _).setCell (p := ⟨w.heap.size + 1, 2, none⟩) (by simp) _), ?_⟩
      · exact hv.keep (((hY.setCell (p := ⟨w.heap.size + 1, 0, none⟩) (by simp) _).setCell (p := ⟨w.heap.size + 1, 1, none⟩) (by simp) _).setCell (p := ⟨w.heap.size + 1, 2, none⟩) (by simp) _)
      · exact ((hY.setCell (p := ⟨w.heap.size + 1, 0, none⟩) (by simp) _).setCell (p := ⟨w.heap.size + 1, 1, none⟩) (by simp) _).setCell (p := ⟨w.heap.size + 1, 2, none⟩) (by simp) _
    by_cases h3 : now < ver
    · rw [show giveL now mx ls i who ver = (1, ls) from by unfold giveL doL; rw [if_neg (by simp [someB]; omega)]]
      clear hm
      go_enter Try.func79, Try.ntmps79
      go_wp2_with fail
      refine (hmay _ _ (hv.sl.below hb0)).mono ?_
      rintro e w1 ⟨rfl, hb1⟩
      have hY := hb0.trans (hb1.mono (by simp; try omega))
      have kA0 : Blk w1 w.heap.size 30 #[.int .i64 now, .int .i64 mx, .slice A ls.length c] := ((Blk.new_ w _ _ _ rfl).alloc _).keep hb1
      have kA1 : Blk w1 (w.heap.size + 1) 30 #[.int .i64 0, .int .i64 0, .slice none 0 0] := (Blk.new_ _ _ _ _ (by simp)).keep hb1
      have la := kA0.lt
      have lb := kA1.lt
      have s0 : w1.cell? ⟨w.heap.size, 0, none⟩ = some (.int .i64 now) := by rw [kA0.cell]; rfl
      have s1 : w1.cell? ⟨w.heap.size, 1, none⟩ = some (.int .i64 mx) := by rw [kA0.cell]; rfl
      have s2 : w1.cell? ⟨w.heap.size, 2, none⟩ = some (.slice A ls.length c) := by rw [kA0.cell]; rfl
      have sf0 : w1.frozen? ⟨w.heap.size, 0, none⟩ = false := kA0.free 0
      have sf1 : w1.frozen? ⟨w.heap.size, 1, none⟩ = false := kA0.free 1
      have sf2 : w1.frozen? ⟨w.heap.size, 2, none⟩ = false := kA0.free 2
      have t0 : w1.cell? ⟨w.heap.size + 1, 0, none⟩ = some (.int .i64 0) := by rw [kA1.cell]; rfl
      have t1 : w1.cell? ⟨w.heap.size + 1, 1, none⟩ = some (.int .i64 0) := by rw [kA1.cell]; rfl
      have t2 : w1.cell? ⟨w.heap.size + 1, 2, none⟩ = some (.slice none 0 0) := by rw [kA1.cell]; rfl
      have tf0 : w1.frozen? ⟨w.heap.size + 1, 0, none⟩ = false := kA1.free 0
      have tf1 : w1.frozen? ⟨w.heap.size + 1, 1, none⟩ = false := kA1.free 1
      have tf2 : w1.frozen? ⟨w.heap.size + 1, 2, none⟩ = false := kA1.free 2
      go_wp2
      refine bodyPost_ret (v := .tuple #[.agg #[.int .i64 now, .int .i64 mx, .slice A ls.length c], .int .i64 1]) (by simp [results, Try.results79, go_sem, t0, t1, t2]) rfl ⟨_, rfl, ?_, fun base hbs h => h.keep (((hY.setCell (p := ⟨w.heap.size + 1, 0, none⟩) (by simp) _).setCell (p := ⟨w.heap.size + 1, 1, none⟩) (by simp) _).setCell (p := ⟨w.heap.size + 1, 2, none⟩) (by simp) _), ?_⟩
      · exact hv.keep (((hY.setCell (p := ⟨w.heap.size + 1, 0, none⟩) (by simp) _).setCell (p := ⟨w.heap.size + 1, 1, none⟩) (by simp) _).setCell (p := ⟨w.heap.size + 1, 2, none⟩) (by simp) _)
      · exact ((hY.setCell (p := ⟨w.heap.size + 1, 0, none⟩) (by simp) _).setCell (p := ⟨w.heap.size + 1, 1, none⟩) (by simp) _).setCell (p := ⟨w.heap.size + 1, 2, none⟩) (by simp) _
    have hsb : (someB who && (decide (-1 ≤ ver) && decide (ver ≤ now))) = true := by simp [someB]; omega
    by_cases h5 : i < 0
    · rw [show giveL now mx ls i who ver = (11, ls) from by unfold giveL doL; rw [hm, hsb, if_pos (by rfl), dif_neg (by omega)]]
      clear hm hsb
      go_enter Try.func79, Try.ntmps79
      go_wp2_with fail
      refine (hmay _ _ (hv.sl.below hb0)).mono ?_
      rintro e w1 ⟨rfl, hb1⟩
      have hY := hb0.trans (hb1.mono (by simp; try omega))
      have kA0 : Blk w1 w.heap.size 30 #[.int .i64 now, .int .i64 mx, .slice A ls.length c] := ((Blk.new_ w _ _ _ rfl).alloc _).keep hb1
      have kA1 : Blk w1 (w.heap.size + 1) 30 #[.int .i64 0, .int .i64 0, .slice none 0 0] := (Blk.new_ _ _ _ _ (by simp)).keep hb1
      have la := kA0.lt
      have lb := kA1.lt
      have s0 : w1.cell? ⟨w.heap.size, 0, none⟩ = some (.int .i64 now) := by rw [kA0.cell]; rfl
      have s1 : w1.cell? ⟨w.heap.size, 1, none⟩ = some (.int .i64 mx) := by rw [kA0.cell]; rfl
      have s2 : w1.cell? ⟨w.heap.size, 2, none⟩ = some (.slice A ls.length c) := by rw [kA0.cell]; rfl
      have sf0 : w1.frozen? ⟨w.heap.size, 0, none⟩ = false := kA0.free 0
      have sf1 : w1.frozen? ⟨w.heap.size, 1, none⟩ = false := kA0.free 1
      have sf2 : w1.frozen? ⟨w.heap.size, 2, none⟩ = false := kA0.free 2
      have t0 : w1.cell? ⟨w.heap.size + 1, 0, none⟩ = some (.int .i64 0) := by rw [kA1.cell]; rfl
      have t1 : w1.cell? ⟨w.heap.size + 1, 1, none⟩ = some (.int .i64 0) := by rw [kA1.cell]; rfl
      have t2 : w1.cell? ⟨w.heap.size + 1, 2, none⟩ = some (.slice none 0 0) := by rw [kA1.cell]; rfl
      have tf0 : w1.frozen? ⟨w.heap.size + 1, 0, none⟩ = false := kA1.free 0
      have tf1 : w1.frozen? ⟨w.heap.size + 1, 1, none⟩ = false := kA1.free 1
      have tf2 : w1.frozen? ⟨w.heap.size + 1, 2, none⟩ = false := kA1.free 2
      go_wp2
      refine bodyPost_ret (v := .tuple #[.agg #[.int .i64 now, .int .i64 mx, .slice A ls.length c], .int .i64 11]) (by simp [results, Try.results79, go_sem, t0, t1, t2]) rfl ⟨_, rfl, ?_, fun base hbs h => h.keep (((hY.setCell (p := ⟨w.heap.size + 1, 0, none⟩) (by simp) _).setCell (p := ⟨w.heap.size + 1, 1, none⟩) (by simp) _).setCell (p := ⟨w.heap.size + 1, 2, none⟩) (by simp) _), ?_⟩
      · exact hv.keep (((hY.setCell (p := ⟨w.heap.size + 1, 0, none⟩) (by simp) _).setCell (p := ⟨w.heap.size + 1, 1, none⟩) (by simp) _).setCell (p := ⟨w.heap.size + 1, 2, none⟩) (by simp) _)
      · exact ((hY.setCell (p := ⟨w.heap.size + 1, 0, none⟩) (by simp) _).setCell (p := ⟨w.heap.size + 1, 1, none⟩) (by simp) _).setCell (p := ⟨w.heap.size + 1, 2, none⟩) (by simp) _
    by_cases h6 : (ls.length : Int) ≤ i
    · rw [show giveL now mx ls i who ver = (11, ls) from by unfold giveL doL; rw [hm, hsb, if_pos (by rfl), dif_neg (by omega)]]
      clear hm hsb
      go_enter Try.func79, Try.ntmps79
      go_wp2_with fail
      refine (hmay _ _ (hv.sl.below hb0)).mono ?_
      rintro e w1 ⟨rfl, hb1⟩
      have hY := hb0.trans (hb1.mono (by simp; try omega))
      have kA0 : Blk w1 w.heap.size 30 #[.int .i64 now, .int .i64 mx, .slice A ls.length c] := ((Blk.new_ w _ _ _ rfl).alloc _).keep hb1
      have kA1 : Blk w1 (w.heap.size + 1) 30 #[.int .i64 0, .int .i64 0, .slice none 0 0] := (Blk.new_ _ _ _ _ (by simp)).keep hb1
      have la := kA0.lt
      have lb := kA1.lt
      have s0 : w1.cell? ⟨w.heap.size, 0, none⟩ = some (.int .i64 now) := by rw [kA0.cell]; rfl
      have s1 : w1.cell? ⟨w.heap.size, 1, none⟩ = some (.int .i64 mx) := by rw [kA0.cell]; rfl
      have s2 : w1.cell? ⟨w.heap.size, 2, none⟩ = some (.slice A ls.length c) := by rw [kA0.cell]; rfl
      have sf0 : w1.frozen? ⟨w.heap.size, 0, none⟩ = false := kA0.free 0
      have sf1 : w1.frozen? ⟨w.heap.size, 1, none⟩ = false := kA0.free 1
      have sf2 : w1.frozen? ⟨w.heap.size, 2, none⟩ = false := kA0.free 2
      have t0 : w1.cell? ⟨w.heap.size + 1, 0, none⟩ = some (.int .i64 0) := by rw [kA1.cell]; rfl
      have t1 : w1.cell? ⟨w.heap.size + 1, 1, none⟩ = some (.int .i64 0) := by rw [kA1.cell]; rfl
      have t2 : w1.cell? ⟨w.heap.size + 1, 2, none⟩ = some (.slice none 0 0) := by rw [kA1.cell]; rfl
      have tf0 : w1.frozen? ⟨w.heap.size + 1, 0, none⟩ = false := kA1.free 0
      have tf1 : w1.frozen? ⟨w.heap.size + 1, 1, none⟩ = false := kA1.free 1
      have tf2 : w1.frozen? ⟨w.heap.size + 1, 2, none⟩ = false := kA1.free 2
      go_wp2
      refine bodyPost_ret (v := .tuple #[.agg #[.int .i64 now, .int .i64 mx, .slice A ls.length c], .int .i64 11]) (by simp [results, Try.results79, go_sem, t0, t1, t2]) rfl ⟨_, rfl, ?_, fun base hbs h => h.keep (((hY.setCell (p := ⟨w.heap.size + 1, 0, none⟩) (by simp) _).setCell (p := ⟨w.heap.size + 1, 1, none⟩) (by simp) _).setCell (p := ⟨w.heap.size + 1, 2, none⟩) (by simp) _), ?_⟩
      · exact hv.keep (((hY.setCell (p := ⟨w.heap.size + 1, 0, none⟩) (by simp) _).setCell (p := ⟨w.heap.size + 1, 1, none⟩) (by simp) _).setCell (p := ⟨w.heap.size + 1, 2, none⟩) (by simp) _)
      · exact ((hY.setCell (p := ⟨w.heap.size + 1, 0, none⟩) (by simp) _).setCell (p := ⟨w.heap.size + 1, 1, none⟩) (by simp) _).setCell (p := ⟨w.heap.size + 1, 2, none⟩) (by simp) _
    obtain ⟨k, rfl⟩ := Int.eq_ofNat_of_zero_le (Int.not_lt.1 h5)
    have hk : k < ls.length := by omega
    have hk0 : (0 : Int) ≤ (k : Int) := by omega
    have hk1 : (k : Int) < (ls.length : Int) := by omega
    rw [give_in hm hk (by omega) (by omega) (by omega) (by omega)]
    have hv0 := (may_at hm k hk).1
    have hwith := fun v y W h => with_any v now mx k y ls W h hk hn
    obtain ⟨b, o, rfl, hlt, hel⟩ := Sl.pos encL encL_len hv.sl (by omega)
    have hel := fun W hW => hel W hW k hk
    generalize ls[k] = x at *
    clear hm hsb hn hk
    by_cases ho : x.o = who
    · rw [if_pos ho]
      have ho1 : (x.o != who) = false := by simpa using ho
      clear ho
      by_cases hz : 0 ≤ ver
      · by_cases hle : ver ≤ x.v
        · rw [if_pos ⟨by omega, hle⟩]
          go_enter Try.func79, Try.ntmps79
          go_wp2_with fail
          refine (hmay _ _ (hv.sl.below hb0)).mono ?_
          rintro e w1 ⟨rfl, hb1⟩
          have hY := hb0.trans (hb1.mono (by simp; try omega))
          have kA0 : Blk w1 w.heap.size 30 #[.int .i64 now, .int .i64 mx, .slice (some ⟨b, o, none⟩) ls.length c] := ((Blk.new_ w _ _ _ rfl).alloc _).keep hb1
          have kA1 : Blk w1 (w.heap.size + 1) 30 #[.int .i64 0, .int .i64 0, .slice none 0 0] := (Blk.new_ _ _ _ _ (by simp)).keep hb1
          have la := kA0.lt
          have lb := kA1.lt
          have s0 : w1.cell? ⟨w.heap.size, 0, none⟩ = some (.int .i64 now) := by rw [kA0.cell]; rfl
          have s1 : w1.cell? ⟨w.heap.size, 1, none⟩ = some (.int .i64 mx) := by rw [kA0.cell]; rfl
          have s2 : w1.cell? ⟨w.heap.size, 2, none⟩ = some (.slice (some ⟨b, o, none⟩) ls.length c) := by rw [kA0.cell]; rfl
          have sf0 : w1.frozen? ⟨w.heap.size, 0, none⟩ = false := kA0.free 0
          have sf1 : w1.frozen? ⟨w.heap.size, 1, none⟩ = false := kA0.free 1
          have sf2 : w1.frozen? ⟨w.heap.size, 2, none⟩ = false := kA0.free 2
          have t0 : w1.cell? ⟨w.heap.size + 1, 0, none⟩ = some (.int .i64 0) := by rw [kA1.cell]; rfl
          have t1 : w1.cell? ⟨w.heap.size + 1, 1, none⟩ = some (.int .i64 0) := by rw [kA1.cell]; rfl
          have t2 : w1.cell? ⟨w.heap.size + 1, 2, none⟩ = some (.slice none 0 0) := by rw [kA1.cell]; rfl
          have tf0 : w1.frozen? ⟨w.heap.size + 1, 0, none⟩ = false := kA1.free 0
          have tf1 : w1.frozen? ⟨w.heap.size + 1, 1, none⟩ = false := kA1.free 1
          have tf2 : w1.frozen? ⟨w.heap.size + 1, 2, none⟩ = false := kA1.free 2
          have e0 := hel w1 hY 0 _ rfl
          have e1 := hel w1 hY 1 _ rfl
          simp only [Nat.add_zero] at e0
          have hlw : b < w1.heap.size := Nat.lt_of_lt_of_le hlt hY.size
          clear hel
          go_wp2
          refine bodyPost_ret (v := .tuple #[.agg #[.int .i64 now, .int .i64 mx, .slice (some ⟨b, o, none⟩) ls.length c], .int .i64 1]) (by simp [results, Try.results79, go_sem, t0, t1, t2, lb]) rfl ⟨_, rfl, ?_, fun base hbs h => h.keep ((((hY.setCell (p := ⟨w.heap.size + 1, 0, none⟩) (by simp) _).setCell (p := ⟨w.heap.size + 1, 1, none⟩) (by simp) _).setCell (p := ⟨w.heap.size + 1, 2, none⟩) (by simp) _).alloc (by simp only [World.size_setCell]; exact hY.size) _), ?_⟩
          · exact hv.keep ((((hY.setCell (p := ⟨w.heap.size + 1, 0, none⟩) (by simp) _).setCell (p := ⟨w.heap.size + 1, 1, none⟩) (by simp) _).setCell (p := ⟨w.heap.size + 1, 2, none⟩) (by simp) _).alloc (by simp only [World.size_setCell]; exact hY.size) _)
          · exact (((hY.setCell (p := ⟨w.heap.size + 1, 0, none⟩) (by simp) _).setCell (p := ⟨w.heap.size + 1, 1, none⟩) (by simp) _).setCell (p := ⟨w.heap.size + 1, 2, none⟩) (by simp) _).alloc (by simp only [World.size_setCell]; exact hY.size) _
        · rw [if_neg (fun h => hle h.2), show max x.v ver = ver from by omega]
          go_enter Try.func79, Try.ntmps79
          go_wp2_with fail
          refine (hmay _ _ (hv.sl.below hb0)).mono ?_
          rintro e w1 ⟨rfl, hb1⟩
          have hY := hb0.trans (hb1.mono (by simp; try omega))
          have kA0 : Blk w1 w.heap.size 30 #[.int .i64 now, .int .i64 mx, .slice (some ⟨b, o, none⟩) ls.length c] := ((Blk.new_ w _ _ _ rfl).alloc _).keep hb1
          have kA1 : Blk w1 (w.heap.size + 1) 30 #[.int .i64 0, .int .i64 0, .slice none 0 0] := (Blk.new_ _ _ _ _ (by simp)).keep hb1
          have la := kA0.lt
          have lb := kA1.lt
          have s0 : w1.cell? ⟨w.heap.size, 0, none⟩ = some (.int .i64 now) := by rw [kA0.cell]; rfl
          have s1 : w1.cell? ⟨w.heap.size, 1, none⟩ = some (.int .i64 mx) := by rw [kA0.cell]; rfl
          have s2 : w1.cell? ⟨w.heap.size, 2, none⟩ = some (.slice (some ⟨b, o, none⟩) ls.length c) := by rw [kA0.cell]; rfl
          have sf0 : w1.frozen? ⟨w.heap.size, 0, none⟩ = false := kA0.free 0
          have sf1 : w1.frozen? ⟨w.heap.size, 1, none⟩ = false := kA0.free 1
          have sf2 : w1.frozen? ⟨w.heap.size, 2, none⟩ = false := kA0.free 2
          have t0 : w1.cell? ⟨w.heap.size + 1, 0, none⟩ = some (.int .i64 0) := by rw [kA1.cell]; rfl
          have t1 : w1.cell? ⟨w.heap.size + 1, 1, none⟩ = some (.int .i64 0) := by rw [kA1.cell]; rfl
          have t2 : w1.cell? ⟨w.heap.size + 1, 2, none⟩ = some (.slice none 0 0) := by rw [kA1.cell]; rfl
          have tf0 : w1.frozen? ⟨w.heap.size + 1, 0, none⟩ = false := kA1.free 0
          have tf1 : w1.frozen? ⟨w.heap.size + 1, 1, none⟩ = false := kA1.free 1
          have tf2 : w1.frozen? ⟨w.heap.size + 1, 2, none⟩ = false := kA1.free 2
          have e0 := hel w1 hY 0 _ rfl
          have e1 := hel w1 hY 1 _ rfl
          simp only [Nat.add_zero] at e0
          have hlw : b < w1.heap.size := Nat.lt_of_lt_of_le hlt hY.size
          clear hel
          go_wp2_with fail
          have hA1 := (Below.refl w1.heap.size w1).alloc (Nat.le_refl _) (.cells #[.int .i64 ver, .int .i64 (-1)] 43)
          refine (hwith _ ⟨ver, -1⟩ _ (((hv.keep hY).keep hA1))).mono ?_
          rintro e w2 ⟨v2, rfl, hst2, hb2⟩
          have hY2 := (hY.trans (hA1.mono hY.size)).trans (hb2.mono (hY.trans (hA1.mono hY.size)).size)
          have kB1 := (kA1.keep hA1).keep hb2
          obtain ⟨sv2, rfl, hrow2⟩ := hst2
          unfold RowL at hrow2
          rw [List.length_set] at hrow2
          obtain ⟨A2, c2, rfl, _, _⟩ := (Sl.of_own hrow2).form
          clear kA0 kA1 s0 s1 s2 sf0 sf1 sf2 t0 t1 t2 tf0 tf1 tf2
          have t0 : w2.cell? ⟨w.heap.size + 1, 0, none⟩ = some (.int .i64 0) := by rw [kB1.cell]; rfl
          have t1 : w2.cell? ⟨w.heap.size + 1, 1, none⟩ = some (.int .i64 0) := by rw [kB1.cell]; rfl
          have t2 : w2.cell? ⟨w.heap.size + 1, 2, none⟩ = some (.slice none 0 0) := by rw [kB1.cell]; rfl
          have tf0 : w2.frozen? ⟨w.heap.size + 1, 0, none⟩ = false := kB1.free 0
          have tf1 : w2.frozen? ⟨w.heap.size + 1, 1, none⟩ = false := kB1.free 1
          have tf2 : w2.frozen? ⟨w.heap.size + 1, 2, none⟩ = false := kB1.free 2
          go_wp2
          refine bodyPost_ret (v := .tuple #[.agg #[.int .i64 now, .int .i64 mx, .slice A2 ls.length c2], .int .i64 0]) (by simp [results, Try.results79, go_sem, t0, t1, t2]) rfl ⟨_, rfl, ⟨_, rfl, ?_⟩, fun base hbs h => ⟨_, rfl, ?_⟩, ?_⟩
          · show Sl _ _ _ (ls.set k _).length _
            rw [List.length_set]
            have hzz := hY.size
            exact Sl.of_own (ownsRow_setCell_below (ownsRow_setCell_below (ownsRow_setCell_below hrow2 (a := ⟨w.heap.size + 1, 0, none⟩) (by simp; omega) _) (a := ⟨w.heap.size + 1, 1, none⟩) (by simp; omega) _) (a := ⟨w.heap.size + 1, 2, none⟩) (by simp; omega) _)
          · show World.ownsRow _ _ _ _ _ (ls.set k _).length _
            rw [List.length_set]
            have hzz := hY.size
            exact ownsRow_mono (ownsRow_setCell_below (ownsRow_setCell_below (ownsRow_setCell_below hrow2 (a := ⟨w.heap.size + 1, 0, none⟩) (by simp; omega) _) (a := ⟨w.heap.size + 1, 1, none⟩) (by simp; omega) _) (a := ⟨w.heap.size + 1, 2, none⟩) (by simp; omega) _) (by simp at hzz ⊢; omega)
          · exact ((hY2.setCell (p := ⟨w.heap.size + 1, 0, none⟩) (by simp) _).setCell (p := ⟨w.heap.size + 1, 1, none⟩) (by simp) _).setCell (p := ⟨w.heap.size + 1, 2, none⟩) (by simp) _
      · rw [if_neg (fun h => h.1 (by omega)), show max x.v ver = x.v from by omega]
        go_enter Try.func79, Try.ntmps79
        go_wp2_with fail
        refine (hmay _ _ (hv.sl.below hb0)).mono ?_
        rintro e w1 ⟨rfl, hb1⟩
        have hY := hb0.trans (hb1.mono (by simp; try omega))
        have kA0 : Blk w1 w.heap.size 30 #[.int .i64 now, .int .i64 mx, .slice (some ⟨b, o, none⟩) ls.length c] := ((Blk.new_ w _ _ _ rfl).alloc _).keep hb1
        have kA1 : Blk w1 (w.heap.size + 1) 30 #[.int .i64 0, .int .i64 0, .slice none 0 0] := (Blk.new_ _ _ _ _ (by simp)).keep hb1
        have la := kA0.lt
        have lb := kA1.lt
        have s0 : w1.cell? ⟨w.heap.size, 0, none⟩ = some (.int .i64 now) := by rw [kA0.cell]; rfl
        have s1 : w1.cell? ⟨w.heap.size, 1, none⟩ = some (.int .i64 mx) := by rw [kA0.cell]; rfl
        have s2 : w1.cell? ⟨w.heap.size, 2, none⟩ = some (.slice (some ⟨b, o, none⟩) ls.length c) := by rw [kA0.cell]; rfl
        have sf0 : w1.frozen? ⟨w.heap.size, 0, none⟩ = false := kA0.free 0
        have sf1 : w1.frozen? ⟨w.heap.size, 1, none⟩ = false := kA0.free 1
        have sf2 : w1.frozen? ⟨w.heap.size, 2, none⟩ = false := kA0.free 2
        have t0 : w1.cell? ⟨w.heap.size + 1, 0, none⟩ = some (.int .i64 0) := by rw [kA1.cell]; rfl
        have t1 : w1.cell? ⟨w.heap.size + 1, 1, none⟩ = some (.int .i64 0) := by rw [kA1.cell]; rfl
        have t2 : w1.cell? ⟨w.heap.size + 1, 2, none⟩ = some (.slice none 0 0) := by rw [kA1.cell]; rfl
        have tf0 : w1.frozen? ⟨w.heap.size + 1, 0, none⟩ = false := kA1.free 0
        have tf1 : w1.frozen? ⟨w.heap.size + 1, 1, none⟩ = false := kA1.free 1
        have tf2 : w1.frozen? ⟨w.heap.size + 1, 2, none⟩ = false := kA1.free 2
        have e0 := hel w1 hY 0 _ rfl
        have e1 := hel w1 hY 1 _ rfl
        simp only [Nat.add_zero] at e0
        have hlw : b < w1.heap.size := Nat.lt_of_lt_of_le hlt hY.size
        clear hel
        go_wp2_with fail
        have hA1 := (Below.refl w1.heap.size w1).alloc (Nat.le_refl _) (.cells #[.int .i64 x.v, .int .i64 (-1)] 43)
        refine (hwith _ ⟨x.v, -1⟩ _ (((hv.keep hY).keep hA1))).mono ?_
        rintro e w2 ⟨v2, rfl, hst2, hb2⟩
        have hY2 := (hY.trans (hA1.mono hY.size)).trans (hb2.mono (hY.trans (hA1.mono hY.size)).size)
        have kB1 := (kA1.keep hA1).keep hb2
        obtain ⟨sv2, rfl, hrow2⟩ := hst2
        unfold RowL at hrow2
        rw [List.length_set] at hrow2
        obtain ⟨A2, c2, rfl, _, _⟩ := (Sl.of_own hrow2).form
        clear kA0 kA1 s0 s1 s2 sf0 sf1 sf2 t0 t1 t2 tf0 tf1 tf2
        have t0 : w2.cell? ⟨w.heap.size + 1, 0, none⟩ = some (.int .i64 0) := by rw [kB1.cell]; rfl
        have t1 : w2.cell? ⟨w.heap.size + 1, 1, none⟩ = some (.int .i64 0) := by rw [kB1.cell]; rfl
        have t2 : w2.cell? ⟨w.heap.size + 1, 2, none⟩ = some (.slice none 0 0) := by rw [kB1.cell]; rfl
        have tf0 : w2.frozen? ⟨w.heap.size + 1, 0, none⟩ = false := kB1.free 0
        have tf1 : w2.frozen? ⟨w.heap.size + 1, 1, none⟩ = false := kB1.free 1
        have tf2 : w2.frozen? ⟨w.heap.size + 1, 2, none⟩ = false := kB1.free 2
        go_wp2
        refine bodyPost_ret (v := .tuple #[.agg #[.int .i64 now, .int .i64 mx, .slice A2 ls.length c2], .int .i64 0]) (by simp [results, Try.results79, go_sem, t0, t1, t2]) rfl ⟨_, rfl, ⟨_, rfl, ?_⟩, fun base hbs h => ⟨_, rfl, ?_⟩, ?_⟩
        · show Sl _ _ _ (ls.set k _).length _
          rw [List.length_set]
          have hzz := hY.size
          exact Sl.of_own (ownsRow_setCell_below (ownsRow_setCell_below (ownsRow_setCell_below hrow2 (a := ⟨w.heap.size + 1, 0, none⟩) (by simp; omega) _) (a := ⟨w.heap.size + 1, 1, none⟩) (by simp; omega) _) (a := ⟨w.heap.size + 1, 2, none⟩) (by simp; omega) _)
        · show World.ownsRow _ _ _ _ _ (ls.set k _).length _
          rw [List.length_set]
          have hzz := hY.size
          exact ownsRow_mono (ownsRow_setCell_below (ownsRow_setCell_below (ownsRow_setCell_below hrow2 (a := ⟨w.heap.size + 1, 0, none⟩) (by simp; omega) _) (a := ⟨w.heap.size + 1, 1, none⟩) (by simp; omega) _) (a := ⟨w.heap.size + 1, 2, none⟩) (by simp; omega) _) (by simp at hzz ⊢; omega)
        · exact ((hY2.setCell (p := ⟨w.heap.size + 1, 0, none⟩) (by simp) _).setCell (p := ⟨w.heap.size + 1, 1, none⟩) (by simp) _).setCell (p := ⟨w.heap.size + 1, 2, none⟩) (by simp) _
    · rw [if_neg ho]
      have ho1 : (x.o != who) = true := by simpa using ho
      clear ho
      go_enter Try.func79, Try.ntmps79
      go_wp2_with fail
      refine (hmay _ _ (hv.sl.below hb0)).mono ?_
      rintro e w1 ⟨rfl, hb1⟩
      have hY := hb0.trans (hb1.mono (by simp; try omega))
      have kA0 : Blk w1 w.heap.size 30 #[.int .i64 now, .int .i64 mx, .slice (some ⟨b, o, none⟩) ls.length c] := ((Blk.new_ w _ _ _ rfl).alloc _).keep hb1
      have kA1 : Blk w1 (w.heap.size + 1) 30 #[.int .i64 0, .int .i64 0, .slice none 0 0] := (Blk.new_ _ _ _ _ (by simp)).keep hb1
      have la := kA0.lt
      have lb := kA1.lt
      have s0 : w1.cell? ⟨w.heap.size, 0, none⟩ = some (.int .i64 now) := by rw [kA0.cell]; rfl
      have s1 : w1.cell? ⟨w.heap.size, 1, none⟩ = some (.int .i64 mx) := by rw [kA0.cell]; rfl
      have s2 : w1.cell? ⟨w.heap.size, 2, none⟩ = some (.slice (some ⟨b, o, none⟩) ls.length c) := by rw [kA0.cell]; rfl
      have sf0 : w1.frozen? ⟨w.heap.size, 0, none⟩ = false := kA0.free 0
      have sf1 : w1.frozen? ⟨w.heap.size, 1, none⟩ = false := kA0.free 1
      have sf2 : w1.frozen? ⟨w.heap.size, 2, none⟩ = false := kA0.free 2
      have t0 : w1.cell? ⟨w.heap.size + 1, 0, none⟩ = some (.int .i64 0) := by rw [kA1.cell]; rfl
      have t1 : w1.cell? ⟨w.heap.size + 1, 1, none⟩ = some (.int .i64 0) := by rw [kA1.cell]; rfl
      have t2 : w1.cell? ⟨w.heap.size + 1, 2, none⟩ = some (.slice none 0 0) := by rw [kA1.cell]; rfl
      have tf0 : w1.frozen? ⟨w.heap.size + 1, 0, none⟩ = false := kA1.free 0
      have tf1 : w1.frozen? ⟨w.heap.size + 1, 1, none⟩ = false := kA1.free 1
      have tf2 : w1.frozen? ⟨w.heap.size + 1, 2, none⟩ = false := kA1.free 2
      have e0 := hel w1 hY 0 _ rfl
      have e1 := hel w1 hY 1 _ rfl
      simp only [Nat.add_zero] at e0
      have hlw : b < w1.heap.size := Nat.lt_of_lt_of_le hlt hY.size
      clear hel
      go_wp2
      refine bodyPost_ret (v := .tuple #[.agg #[.int .i64 now, .int .i64 mx, .slice (some ⟨b, o, none⟩) ls.length c], .int .i64 11]) (by simp [results, Try.results79, go_sem, t0, t1, t2]) rfl ⟨_, rfl, ?_, fun base hbs h => h.keep (((hY.setCell (p := ⟨w.heap.size + 1, 0, none⟩) (by simp) _).setCell (p := ⟨w.heap.size + 1, 1, none⟩) (by simp) _).setCell (p := ⟨w.heap.size + 1, 2, none⟩) (by simp) _), ?_⟩
      · exact hv.keep (((hY.setCell (p := ⟨w.heap.size + 1, 0, none⟩) (by simp) _).setCell (p := ⟨w.heap.size + 1, 1, none⟩) (by simp) _).setCell (p := ⟨w.heap.size + 1, 2, none⟩) (by simp) _)
      · exact ((hY.setCell (p := ⟨w.heap.size + 1, 0, none⟩) (by simp) _).setCell (p := ⟨w.heap.size + 1, 1, none⟩) (by simp) _).setCell (p := ⟨w.heap.size + 1, 2, none⟩) (by simp) _

def RTickRes (v : Value) (now mx : Int) (ls : List Lk) (r : Int × Int × Int) (w : World) (e : Ending) (w' : World) : Prop :=
  ∃ v', e = .returned (.tuple #[v', .int .i64 r.2.1, .int .i64 r.2.2]) ∧ LkV w' v' r.1 mx ls ∧ (∀ base, base ≤ w.heap.size → LkO w base v now mx ls → LkO w' base v' r.1 mx ls) ∧ Below w.heap.size w w'

set_option maxRecDepth 100000 in
set_option maxHeartbeats 4000000 in
theorem RTick_any (v : Value) (now mx : Int) (ls : List Lk) (w : World) (hv : LkV w v now mx ls) :
    Calls Try.prog 77 #[v] w (RTickRes v now mx ls (tickL now mx ls) w) := by
  obtain ⟨A, c, rfl, hv⟩ := hv.form
  have hb0 : Below w.heap.size w ((w.alloc (.cells #[.int .i64 now, .int .i64 mx, .slice A ls.length c] 30)).alloc (.cells #[.int .i64 0, .int .i64 0, .slice none 0 0] 30)) := ((Below.refl _ w).alloc (Nat.le_refl _) _).alloc (by simp) _
  have hmay := fun sv W h => rmay_any now mx sv ls W h
  cases hm : mayL now mx ls with
  | false =>
    rw [show tickL now mx ls = (now, 0, 1) from by simp [tickL, hm]]
    rw [hm] at hmay
    clear hm
    go_enter Try.func77, Try.ntmps77
    go_wp2_with fail
    refine (hmay _ _ (hv.sl.below hb0)).mono ?_
    rintro e w1 ⟨rfl, hb1⟩
    have hY := hb0.trans (hb1.mono (by simp; try omega))
    have kA0 : Blk w1 w.heap.size 30 #[.int .i64 now, .int .i64 mx, .slice A ls.length c] := ((Blk.new_ w _ _ _ rfl).alloc _).keep hb1
    have kA1 : Blk w1 (w.heap.size + 1) 30 #[.int .i64 0, .int .i64 0, .slice none 0 0] := (Blk.new_ _ _ _ _ (by simp)).keep hb1
    have la := kA0.lt
    have lb := kA1.lt
    have s0 : w1.cell? ⟨w.heap.size, 0, none⟩ = some (.int .i64 now) := by rw [kA0.cell]; rfl
    have s1 : w1.cell? ⟨w.heap.size, 1, none⟩ = some (.int .i64 mx) := by rw [kA0.cell]; rfl
    have s2 : w1.cell? ⟨w.heap.size, 2, none⟩ = some (.slice A ls.length c) := by rw [kA0.cell]; rfl
    have sf0 : w1.frozen? ⟨w.heap.size, 0, none⟩ = false := kA0.free 0
    have sf1 : w1.frozen? ⟨w.heap.size, 1, none⟩ = false := kA0.free 1
    have sf2 : w1.frozen? ⟨w.heap.size, 2, none⟩ = false := kA0.free 2
    have t0 : w1.cell? ⟨w.heap.size + 1, 0, none⟩ = some (.int .i64 0) := by rw [kA1.cell]; rfl
    have t1 : w1.cell? ⟨w.heap.size + 1, 1, none⟩ = some (.int .i64 0) := by rw [kA1.cell]; rfl
    have t2 : w1.cell? ⟨w.heap.size + 1, 2, none⟩ = some (.slice none 0 0) := by rw [kA1.cell]; rfl
    have tf0 : w1.frozen? ⟨w.heap.size + 1, 0, none⟩ = false := kA1.free 0
    have tf1 : w1.frozen? ⟨w.heap.size + 1, 1, none⟩ = false := kA1.free 1
    have tf2 : w1.frozen? ⟨w.heap.size + 1, 2, none⟩ = false := kA1.free 2
    go_wp2
    refine bodyPost_ret (v := .tuple #[.agg #[.int .i64 now, .int .i64 mx, .slice A ls.length c], .int .i64 0, .int .i64 1]) (by simp [results, Try.results77, go_sem, t0, t1, t2]) rfl ⟨_, rfl, ?_, fun base hbs h => h.keep (((hY.setCell (p := ⟨w.heap.size + 1, 0, none⟩) (by simp) _).setCell (p := ⟨w.heap.size + 1, 1, none⟩) (by simp) _).setCell (p := ⟨w.heap.size + 1, 2, none⟩) (by simp) _), ?_⟩
    · exact hv.keep (((hY.setCell (p := ⟨w.heap.size + 1, 0, none⟩) (by simp) _).setCell (p := ⟨w.heap.size + 1, 1, none⟩) (by simp) _).setCell (p := ⟨w.heap.size + 1, 2, none⟩) (by simp) _)
    · exact ((hY.setCell (p := ⟨w.heap.size + 1, 0, none⟩) (by simp) _).setCell (p := ⟨w.heap.size + 1, 1, none⟩) (by simp) _).setCell (p := ⟨w.heap.size + 1, 2, none⟩) (by simp) _
  | true =>
    have hbd := lmay_bd hm
    rw [hm] at hmay
    cases he : (now == mx) with
    | true =>
      rw [show tickL now mx ls = (now, 0, 9) from by simp [tickL, hm, he]]
      clear hm hbd
      go_enter Try.func77, Try.ntmps77
      go_wp2_with fail
      refine (hmay _ _ (hv.sl.below hb0)).mono ?_
      rintro e w1 ⟨rfl, hb1⟩
      have hY := hb0.trans (hb1.mono (by simp; try omega))
      have kA0 : Blk w1 w.heap.size 30 #[.int .i64 now, .int .i64 mx, .slice A ls.length c] := ((Blk.new_ w _ _ _ rfl).alloc _).keep hb1
      have kA1 : Blk w1 (w.heap.size + 1) 30 #[.int .i64 0, .int .i64 0, .slice none 0 0] := (Blk.new_ _ _ _ _ (by simp)).keep hb1
      have la := kA0.lt
      have lb := kA1.lt
      have s0 : w1.cell? ⟨w.heap.size, 0, none⟩ = some (.int .i64 now) := by rw [kA0.cell]; rfl
      have s1 : w1.cell? ⟨w.heap.size, 1, none⟩ = some (.int .i64 mx) := by rw [kA0.cell]; rfl
      have s2 : w1.cell? ⟨w.heap.size, 2, none⟩ = some (.slice A ls.length c) := by rw [kA0.cell]; rfl
      have sf0 : w1.frozen? ⟨w.heap.size, 0, none⟩ = false := kA0.free 0
      have sf1 : w1.frozen? ⟨w.heap.size, 1, none⟩ = false := kA0.free 1
      have sf2 : w1.frozen? ⟨w.heap.size, 2, none⟩ = false := kA0.free 2
      have t0 : w1.cell? ⟨w.heap.size + 1, 0, none⟩ = some (.int .i64 0) := by rw [kA1.cell]; rfl
      have t1 : w1.cell? ⟨w.heap.size + 1, 1, none⟩ = some (.int .i64 0) := by rw [kA1.cell]; rfl
      have t2 : w1.cell? ⟨w.heap.size + 1, 2, none⟩ = some (.slice none 0 0) := by rw [kA1.cell]; rfl
      have tf0 : w1.frozen? ⟨w.heap.size + 1, 0, none⟩ = false := kA1.free 0
      have tf1 : w1.frozen? ⟨w.heap.size + 1, 1, none⟩ = false := kA1.free 1
      have tf2 : w1.frozen? ⟨w.heap.size + 1, 2, none⟩ = false := kA1.free 2
      go_wp2
      refine bodyPost_ret (v := .tuple #[.agg #[.int .i64 now, .int .i64 mx, .slice A ls.length c], .int .i64 0, .int .i64 9]) (by simp [results, Try.results77, go_sem, t0, t1, t2]) rfl ⟨_, rfl, ?_, fun base hbs h => h.keep (((hY.setCell (p := ⟨w.heap.size + 1, 0, none⟩) (by simp) _).setCell (p := ⟨w.heap.size + 1, 1, none⟩) (by simp) _).setCell (p := ⟨w.heap.size + 1, 2, none⟩) (by simp) _), ?_⟩
      · exact hv.keep (((hY.setCell (p := ⟨w.heap.size + 1, 0, none⟩) (by simp) _).setCell (p := ⟨w.heap.size + 1, 1, none⟩) (by simp) _).setCell (p := ⟨w.heap.size + 1, 2, none⟩) (by simp) _)
      · exact ((hY.setCell (p := ⟨w.heap.size + 1, 0, none⟩) (by simp) _).setCell (p := ⟨w.heap.size + 1, 1, none⟩) (by simp) _).setCell (p := ⟨w.heap.size + 1, 2, none⟩) (by simp) _
    | false =>
      rw [show tickL now mx ls = (now + 1, now + 1, 0) from by simp [tickL, hm, he]]
      obtain ⟨x1, x2, x3, _, _⟩ := hbd
      clear hm
      go_enter Try.func77, Try.ntmps77
      go_wp2_with fail
      refine (hmay _ _ (hv.sl.below hb0)).mono ?_
      rintro e w1 ⟨rfl, hb1⟩
      have hY := hb0.trans (hb1.mono (by simp; try omega))
      have kA0 : Blk w1 w.heap.size 30 #[.int .i64 now, .int .i64 mx, .slice A ls.length c] := ((Blk.new_ w _ _ _ rfl).alloc _).keep hb1
      have kA1 : Blk w1 (w.heap.size + 1) 30 #[.int .i64 0, .int .i64 0, .slice none 0 0] := (Blk.new_ _ _ _ _ (by simp)).keep hb1
      have la := kA0.lt
      have lb := kA1.lt
      have s0 : w1.cell? ⟨w.heap.size, 0, none⟩ = some (.int .i64 now) := by rw [kA0.cell]; rfl
      have s1 : w1.cell? ⟨w.heap.size, 1, none⟩ = some (.int .i64 mx) := by rw [kA0.cell]; rfl
      have s2 : w1.cell? ⟨w.heap.size, 2, none⟩ = some (.slice A ls.length c) := by rw [kA0.cell]; rfl
      have sf0 : w1.frozen? ⟨w.heap.size, 0, none⟩ = false := kA0.free 0
      have sf1 : w1.frozen? ⟨w.heap.size, 1, none⟩ = false := kA0.free 1
      have sf2 : w1.frozen? ⟨w.heap.size, 2, none⟩ = false := kA0.free 2
      have t0 : w1.cell? ⟨w.heap.size + 1, 0, none⟩ = some (.int .i64 0) := by rw [kA1.cell]; rfl
      have t1 : w1.cell? ⟨w.heap.size + 1, 1, none⟩ = some (.int .i64 0) := by rw [kA1.cell]; rfl
      have t2 : w1.cell? ⟨w.heap.size + 1, 2, none⟩ = some (.slice none 0 0) := by rw [kA1.cell]; rfl
      have tf0 : w1.frozen? ⟨w.heap.size + 1, 0, none⟩ = false := kA1.free 0
      have tf1 : w1.frozen? ⟨w.heap.size + 1, 1, none⟩ = false := kA1.free 1
      have tf2 : w1.frozen? ⟨w.heap.size + 1, 2, none⟩ = false := kA1.free 2
      go_wp2_with fail
      have kD0 : Blk _ w.heap.size 30 #[.int .i64 (now + 1), .int .i64 mx, .slice A ls.length c] := kA0.set_ 0 (.int .i64 (now + 1))
      have kD1 := kA1.far (p := ⟨w.heap.size, 0, none⟩) (by simp) (.int .i64 (now + 1))
      have hY3 := hY.setCell (p := ⟨w.heap.size, 0, none⟩) (by simp) (.int .i64 (now + 1))
      obtain ⟨w3, hw3⟩ : ∃ x, w1.setCell ⟨w.heap.size, 0, none⟩ (.int .i64 (now + 1)) = x := ⟨_, rfl⟩
      rw [hw3] at kD0 kD1 hY3 ⊢
      clear hw3 kA0 kA1 hY s0 s1 s2 sf0 sf1 sf2 t0 t1 t2 tf0 tf1 tf2
      have s0 : w3.cell? ⟨w.heap.size, 0, none⟩ = some (.int .i64 (now + 1)) := by rw [kD0.cell]; rfl
      have s1 : w3.cell? ⟨w.heap.size, 1, none⟩ = some (.int .i64 mx) := by rw [kD0.cell]; rfl
      have s2 : w3.cell? ⟨w.heap.size, 2, none⟩ = some (.slice A ls.length c) := by rw [kD0.cell]; rfl
      have sf0 : w3.frozen? ⟨w.heap.size, 0, none⟩ = false := kD0.free 0
      have sf1 : w3.frozen? ⟨w.heap.size, 1, none⟩ = false := kD0.free 1
      have sf2 : w3.frozen? ⟨w.heap.size, 2, none⟩ = false := kD0.free 2
      have t0 : w3.cell? ⟨w.heap.size + 1, 0, none⟩ = some (.int .i64 0) := by rw [kD1.cell]; rfl
      have t1 : w3.cell? ⟨w.heap.size + 1, 1, none⟩ = some (.int .i64 0) := by rw [kD1.cell]; rfl
      have t2 : w3.cell? ⟨w.heap.size + 1, 2, none⟩ = some (.slice none 0 0) := by rw [kD1.cell]; rfl
      have tf0 : w3.frozen? ⟨w.heap.size + 1, 0, none⟩ = false := kD1.free 0
      have tf1 : w3.frozen? ⟨w.heap.size + 1, 1, none⟩ = false := kD1.free 1
      have tf2 : w3.frozen? ⟨w.heap.size + 1, 2, none⟩ = false := kD1.free 2
      refine wp_region_held_drew (S := fun w' => w'.cell? ⟨w.heap.size, 0, none⟩ = some (.int .i64 (now + 1)) ∧ w'.cell? ⟨w.heap.size, 1, none⟩ = some (.int .i64 mx) ∧ w'.cell? ⟨w.heap.size, 2, none⟩ = some (.slice A ls.length c)) (by kernel_rfl) ?_ (fun hbr => ?_)
      · exact ⟨s0, s1, s2⟩
      refine tkA 0 ?_
      refine tkA 1 ?_
      refine tkA 2 ?_
      refine stA 3 (fun K hK => ?_)
      go_simp
      refine hK.out _ _ ?_ (fun hbr3 => ?_)
      · go_keep
      clear hK K hbr
      try simp only [Act.put, List.setIfInBounds_toArray, List.set_cons_zero, List.set_cons_succ]
      refine stA 4 (fun K hK => ?_)
      go_simp
      refine hK.out _ _ ?_ (fun hbr4 => ?_)
      · go_keep
      clear hK K hbr3
      try simp only [Act.put, List.setIfInBounds_toArray, List.set_cons_zero, List.set_cons_succ]
      refine stA 5 (fun K hK => ?_)
      go_simp
      refine hK.out _ _ ?_ (fun hbr5 => ?_)
      · go_keep
      clear hK K hbr4
      try simp only [Act.put, List.setIfInBounds_toArray, List.set_cons_zero, List.set_cons_succ]
      refine wpAnyH_done (by kernel_rfl) ?_ _
      go_wp2
      refine bodyPost_ret (v := .tuple #[.agg #[.int .i64 (now + 1), .int .i64 mx, .slice A ls.length c], .int .i64 (now + 1), .int .i64 0]) (by simp [results, Try.results77, go_sem, t0, t1, t2]) rfl ⟨_, rfl, ⟨_, rfl, hv.sl.below ?_⟩, fun base hbs h => ?_, ?_⟩
      · exact ((hY3.drew.setCell (by simp) _).setCell (by simp) _).setCell (by simp) _
      · obtain ⟨sv, e, hr⟩ := h
        injection e with e
        simp only [Array.mk.injEq, List.cons.injEq, and_true, true_and] at e
        subst e
        exact ⟨_, rfl, own_below hr (((hY3.drew.setCell (by simp) _).setCell (by simp) _).setCell (by simp) _)⟩
      · exact ((hY3.drew.setCell (by simp) _).setCell (by simp) _).setCell (by simp) _

set_option maxHeartbeats 4000000 in
theorem RSees_any (v : Value) (now mx i ver who : Int) (ls : List Lk) (w : World) (hv : LkV w v now mx ls) :
    Calls Try.prog 74 #[v, .int .i64 i, .int .i64 ver, .int .i64 who] w fun e w' => e = .returned (.bool (seesL now mx ls i ver who)) ∧ Below w.heap.size w w' := by
  obtain ⟨A, c, rfl, hv⟩ := hv.form
  have hb0 : Below w.heap.size w (w.alloc (.cells #[.int .i64 now, .int .i64 mx, .slice A ls.length c] 30)) := (Below.refl _ w).alloc (Nat.le_refl _) _
  have hmay := fun sv W h => rmay_any now mx sv ls W h
  cases hm : mayL now mx ls with
  | false =>
    rw [show seesL now mx ls i ver who = false from by unfold seesL; rw [dif_neg (fun h => by rw [hm] at h; cases h.1)]]
    rw [hm] at hmay
    clear hm
    go_enter Try.func74, Try.ntmps74
    go_wp2_with fail
    refine (hmay _ _ (hv.sl.below hb0)).mono ?_
    rintro e w1 ⟨rfl, hb1⟩
    have hY := hb0.trans (hb1.mono (by simp; try omega))
    have kA0 : Blk w1 w.heap.size 30 #[.int .i64 now, .int .i64 mx, .slice A ls.length c] := (Blk.new_ w _ _ _ rfl).keep hb1
    have la := kA0.lt
    have s0 : w1.cell? ⟨w.heap.size, 0, none⟩ = some (.int .i64 now) := by rw [kA0.cell]; rfl
    have s1 : w1.cell? ⟨w.heap.size, 1, none⟩ = some (.int .i64 mx) := by rw [kA0.cell]; rfl
    have s2 : w1.cell? ⟨w.heap.size, 2, none⟩ = some (.slice A ls.length c) := by rw [kA0.cell]; rfl
    have sf0 : w1.frozen? ⟨w.heap.size, 0, none⟩ = false := kA0.free 0
    have sf1 : w1.frozen? ⟨w.heap.size, 1, none⟩ = false := kA0.free 1
    have sf2 : w1.frozen? ⟨w.heap.size, 2, none⟩ = false := kA0.free 2
    go_wp2
    go_ret
    exact ⟨rfl, hY⟩
  | true =>
    rw [hm] at hmay
    by_cases h5 : i < 0
    · rw [show seesL now mx ls i ver who = false from by unfold seesL; rw [dif_neg (fun h => by omega)]]
      clear hm
      go_enter Try.func74, Try.ntmps74
      go_wp2_with fail
      refine (hmay _ _ (hv.sl.below hb0)).mono ?_
      rintro e w1 ⟨rfl, hb1⟩
      have hY := hb0.trans (hb1.mono (by simp; try omega))
      have kA0 : Blk w1 w.heap.size 30 #[.int .i64 now, .int .i64 mx, .slice A ls.length c] := (Blk.new_ w _ _ _ rfl).keep hb1
      have la := kA0.lt
      have s0 : w1.cell? ⟨w.heap.size, 0, none⟩ = some (.int .i64 now) := by rw [kA0.cell]; rfl
      have s1 : w1.cell? ⟨w.heap.size, 1, none⟩ = some (.int .i64 mx) := by rw [kA0.cell]; rfl
      have s2 : w1.cell? ⟨w.heap.size, 2, none⟩ = some (.slice A ls.length c) := by rw [kA0.cell]; rfl
      have sf0 : w1.frozen? ⟨w.heap.size, 0, none⟩ = false := kA0.free 0
      have sf1 : w1.frozen? ⟨w.heap.size, 1, none⟩ = false := kA0.free 1
      have sf2 : w1.frozen? ⟨w.heap.size, 2, none⟩ = false := kA0.free 2
      go_wp2
      go_ret
      exact ⟨rfl, hY⟩
    by_cases h6 : (ls.length : Int) ≤ i
    · rw [show seesL now mx ls i ver who = false from by unfold seesL; rw [dif_neg (fun h => by omega)]]
      clear hm
      go_enter Try.func74, Try.ntmps74
      go_wp2_with fail
      refine (hmay _ _ (hv.sl.below hb0)).mono ?_
      rintro e w1 ⟨rfl, hb1⟩
      have hY := hb0.trans (hb1.mono (by simp; try omega))
      have kA0 : Blk w1 w.heap.size 30 #[.int .i64 now, .int .i64 mx, .slice A ls.length c] := (Blk.new_ w _ _ _ rfl).keep hb1
      have la := kA0.lt
      have s0 : w1.cell? ⟨w.heap.size, 0, none⟩ = some (.int .i64 now) := by rw [kA0.cell]; rfl
      have s1 : w1.cell? ⟨w.heap.size, 1, none⟩ = some (.int .i64 mx) := by rw [kA0.cell]; rfl
      have s2 : w1.cell? ⟨w.heap.size, 2, none⟩ = some (.slice A ls.length c) := by rw [kA0.cell]; rfl
      have sf0 : w1.frozen? ⟨w.heap.size, 0, none⟩ = false := kA0.free 0
      have sf1 : w1.frozen? ⟨w.heap.size, 1, none⟩ = false := kA0.free 1
      have sf2 : w1.frozen? ⟨w.heap.size, 2, none⟩ = false := kA0.free 2
      go_wp2
      go_ret
      exact ⟨rfl, hY⟩
    obtain ⟨k, rfl⟩ := Int.eq_ofNat_of_zero_le (Int.not_lt.1 h5)
    have hk : k < ls.length := by omega
    have hk0 : (0 : Int) ≤ (k : Int) := by omega
    have hk1 : (k : Int) < (ls.length : Int) := by omega
    rw [sees_in hm hk]
    obtain ⟨b, o, rfl, hlt, hel⟩ := Sl.pos encL encL_len hv.sl (by omega)
    have hel := fun W hW => hel W hW k hk
    generalize ls[k] = x at *
    clear hm hk
    cases g1 : (x.o == -1) with
    | true =>
      rw [show freeH who x = true from by simp [freeH, g1], Bool.true_and]
      go_enter Try.func74, Try.ntmps74
      go_wp2_with fail
      refine (hmay _ _ (hv.sl.below hb0)).mono ?_
      rintro e w1 ⟨rfl, hb1⟩
      have hY := hb0.trans (hb1.mono (by simp; try omega))
      have kA0 : Blk w1 w.heap.size 30 #[.int .i64 now, .int .i64 mx, .slice (some ⟨b, o, none⟩) ls.length c] := (Blk.new_ w _ _ _ rfl).keep hb1
      have la := kA0.lt
      have s0 : w1.cell? ⟨w.heap.size, 0, none⟩ = some (.int .i64 now) := by rw [kA0.cell]; rfl
      have s1 : w1.cell? ⟨w.heap.size, 1, none⟩ = some (.int .i64 mx) := by rw [kA0.cell]; rfl
      have s2 : w1.cell? ⟨w.heap.size, 2, none⟩ = some (.slice (some ⟨b, o, none⟩) ls.length c) := by rw [kA0.cell]; rfl
      have sf0 : w1.frozen? ⟨w.heap.size, 0, none⟩ = false := kA0.free 0
      have sf1 : w1.frozen? ⟨w.heap.size, 1, none⟩ = false := kA0.free 1
      have sf2 : w1.frozen? ⟨w.heap.size, 2, none⟩ = false := kA0.free 2
      have e0 := hel w1 hY 0 _ rfl
      have e1 := hel w1 hY 1 _ rfl
      simp only [Nat.add_zero] at e0
      have hlw : b < w1.heap.size := Nat.lt_of_lt_of_le hlt hY.size
      clear hel
      go_wp2
      go_ret
      exact ⟨rfl, hY⟩
    | false =>
      cases g2 : (x.o == who) with
      | true =>
        rw [show freeH who x = true from by simp [freeH, g2], Bool.true_and]
        go_enter Try.func74, Try.ntmps74
        go_wp2_with fail
        refine (hmay _ _ (hv.sl.below hb0)).mono ?_
        rintro e w1 ⟨rfl, hb1⟩
        have hY := hb0.trans (hb1.mono (by simp; try omega))
        have kA0 : Blk w1 w.heap.size 30 #[.int .i64 now, .int .i64 mx, .slice (some ⟨b, o, none⟩) ls.length c] := (Blk.new_ w _ _ _ rfl).keep hb1
        have la := kA0.lt
        have s0 : w1.cell? ⟨w.heap.size, 0, none⟩ = some (.int .i64 now) := by rw [kA0.cell]; rfl
        have s1 : w1.cell? ⟨w.heap.size, 1, none⟩ = some (.int .i64 mx) := by rw [kA0.cell]; rfl
        have s2 : w1.cell? ⟨w.heap.size, 2, none⟩ = some (.slice (some ⟨b, o, none⟩) ls.length c) := by rw [kA0.cell]; rfl
        have sf0 : w1.frozen? ⟨w.heap.size, 0, none⟩ = false := kA0.free 0
        have sf1 : w1.frozen? ⟨w.heap.size, 1, none⟩ = false := kA0.free 1
        have sf2 : w1.frozen? ⟨w.heap.size, 2, none⟩ = false := kA0.free 2
        have e0 := hel w1 hY 0 _ rfl
        have e1 := hel w1 hY 1 _ rfl
        simp only [Nat.add_zero] at e0
        have hlw : b < w1.heap.size := Nat.lt_of_lt_of_le hlt hY.size
        clear hel
        go_wp2
        go_ret
        exact ⟨rfl, hY⟩
      | false =>
        rw [show freeH who x = false from by simp [freeH, g1, g2], Bool.false_and]
        go_enter Try.func74, Try.ntmps74
        go_wp2_with fail
        refine (hmay _ _ (hv.sl.below hb0)).mono ?_
        rintro e w1 ⟨rfl, hb1⟩
        have hY := hb0.trans (hb1.mono (by simp; try omega))
        have kA0 : Blk w1 w.heap.size 30 #[.int .i64 now, .int .i64 mx, .slice (some ⟨b, o, none⟩) ls.length c] := (Blk.new_ w _ _ _ rfl).keep hb1
        have la := kA0.lt
        have s0 : w1.cell? ⟨w.heap.size, 0, none⟩ = some (.int .i64 now) := by rw [kA0.cell]; rfl
        have s1 : w1.cell? ⟨w.heap.size, 1, none⟩ = some (.int .i64 mx) := by rw [kA0.cell]; rfl
        have s2 : w1.cell? ⟨w.heap.size, 2, none⟩ = some (.slice (some ⟨b, o, none⟩) ls.length c) := by rw [kA0.cell]; rfl
        have sf0 : w1.frozen? ⟨w.heap.size, 0, none⟩ = false := kA0.free 0
        have sf1 : w1.frozen? ⟨w.heap.size, 1, none⟩ = false := kA0.free 1
        have sf2 : w1.frozen? ⟨w.heap.size, 2, none⟩ = false := kA0.free 2
        have e0 := hel w1 hY 0 _ rfl
        have e1 := hel w1 hY 1 _ rfl
        simp only [Nat.add_zero] at e0
        have hlw : b < w1.heap.size := Nat.lt_of_lt_of_le hlt hY.size
        clear hel
        go_wp2
        go_ret
        exact ⟨rfl, hY⟩
end Go.Proofs.Ytngimbfojccikaa
