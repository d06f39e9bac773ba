/- foliateref18: Take, Give, Tick, Sees. -/
import Derived.Test.YtngimbfojccikaaStmTellsN
namespace Go.Proofs.Ytngimbfojccikaa
set_option linter.unusedSimpArgs false
open Go Go.RowKit
set_option linter.unusedVariables false
attribute [local go_sem ↓] Go.wp_at_zero Go.wp_at_succ

/-- What a reference's call hands back: locks, and an error. -/
def RefRes (v : Value) (now mx : Int) (ls : List Lk) (r : Int × List Lk) (w : World) (e : Ending) (w' : World) : Prop :=
  ∃ v', e = .returned (.tuple #[v', .int .i64 r.1]) ∧ LkV w' v' now mx r.2 ∧ (∀ base, base ≤ w.heap.size → LkO w base v now mx ls → LkO w' base v' now mx r.2) ∧ Below w.heap.size w w'

set_option maxHeartbeats 4000000 in
theorem RTake_any (v : Value) (now mx i who : Int) (ls : List Lk) (w : World) (hv : LkV w v now mx ls) (hn : ls.length ≤ 1000) :
    Calls Try.prog 75 #[v, .int .i64 i, .int .i64 who] w (RefRes v now mx ls (takeL now mx ls i who) w) := by
  obtain ⟨A, c, rfl, hv⟩ := hv.form
  have hb0 : Below w.heap.size w ((w.alloc (.cells #[.int .i64 now, .int .i64 mx, .slice A ls.length c] 30)).alloc (.cells #[.int .i64 0, .int .i64 0, .slice none 0 0] 30)) := ((Below.refl _ w).alloc (Nat.le_refl _) _).alloc (by simp) _
  have hmay := fun sv W h => rmay_any now mx sv ls W h
  cases hm : mayL now mx ls with
  | false =>
    rw [show takeL now mx ls i who = (1, ls) from by unfold takeL doL; rw [hm]; simp]
    rw [hm] at hmay
    clear hm
    go_enter Try.func75, Try.ntmps75
    go_wp2_with fail
    refine (hmay _ _ (hv.sl.below hb0)).mono ?_
    rintro e w1 ⟨rfl, hb1⟩
    have hY := hb0.trans (hb1.mono (by simp; try omega))
    have kA0 : Blk w1 w.heap.size 30 #[.int .i64 now, .int .i64 mx, .slice A ls.length c] := ((Blk.new_ w _ _ _ rfl).alloc _).keep hb1
    have kA1 : Blk w1 (w.heap.size + 1) 30 #[.int .i64 0, .int .i64 0, .slice none 0 0] := (Blk.new_ _ _ _ _ (by simp)).keep hb1
    have la := kA0.lt
    have lb := kA1.lt
    have s0 : w1.cell? ⟨w.heap.size, 0, none⟩ = some (.int .i64 now) := by rw [kA0.cell]; rfl
    have s1 : w1.cell? ⟨w.heap.size, 1, none⟩ = some (.int .i64 mx) := by rw [kA0.cell]; rfl
    have s2 : w1.cell? ⟨w.heap.size, 2, none⟩ = some (.slice A ls.length c) := by rw [kA0.cell]; rfl
    have sf0 : w1.frozen? ⟨w.heap.size, 0, none⟩ = false := kA0.free 0
    have sf1 : w1.frozen? ⟨w.heap.size, 1, none⟩ = false := kA0.free 1
    have sf2 : w1.frozen? ⟨w.heap.size, 2, none⟩ = false := kA0.free 2
    have t0 : w1.cell? ⟨w.heap.size + 1, 0, none⟩ = some (.int .i64 0) := by rw [kA1.cell]; rfl
    have t1 : w1.cell? ⟨w.heap.size + 1, 1, none⟩ = some (.int .i64 0) := by rw [kA1.cell]; rfl
    have t2 : w1.cell? ⟨w.heap.size + 1, 2, none⟩ = some (.slice none 0 0) := by rw [kA1.cell]; rfl
    have tf0 : w1.frozen? ⟨w.heap.size + 1, 0, none⟩ = false := kA1.free 0
    have tf1 : w1.frozen? ⟨w.heap.size + 1, 1, none⟩ = false := kA1.free 1
    have tf2 : w1.frozen? ⟨w.heap.size + 1, 2, none⟩ = false := kA1.free 2
    go_wp2
    refine bodyPost_ret (v := .tuple #[.agg #[.int .i64 now, .int .i64 mx, .slice A ls.length c], .int .i64 1]) (by simp [results, Try.results75, go_sem, t0, t1, t2]) rfl ⟨_, rfl, ?_, fun base hbs h => h.keep (((hY.setCell (p := ⟨w.heap.size + 1, 0, none⟩) (by simp) _).setCell (p := ⟨w.heap.size + 1, 1, none⟩) (by simp) _).setCell (p := ⟨w.heap.size + 1, 2, none⟩) (by simp) _), ?_⟩
    · exact hv.keep (((hY.setCell (p := ⟨w.heap.size + 1, 0, none⟩) (by simp) _).setCell (p := ⟨w.heap.size + 1, 1, none⟩) (by simp) _).setCell (p := ⟨w.heap.size + 1, 2, none⟩) (by simp) _)
    · exact ((hY.setCell (p := ⟨w.heap.size + 1, 0, none⟩) (by simp) _).setCell (p := ⟨w.heap.size + 1, 1, none⟩) (by simp) _).setCell (p := ⟨w.heap.size + 1, 2, none⟩) (by simp) _
  | true =>
    rw [hm] at hmay
    by_cases h1 : who < 0
    · rw [show takeL now mx ls i who = (1, ls) from by unfold takeL doL; rw [show someB who = false from by simp [someB]; omega]; simp]
      clear hm
      go_enter Try.func75, Try.ntmps75
      go_wp2_with fail
      refine (hmay _ _ (hv.sl.below hb0)).mono ?_
      rintro e w1 ⟨rfl, hb1⟩
      have hY := hb0.trans (hb1.mono (by simp; try omega))
      have kA0 : Blk w1 w.heap.size 30 #[.int .i64 now, .int .i64 mx, .slice A ls.length c] := ((Blk.new_ w _ _ _ rfl).alloc _).keep hb1
      have kA1 : Blk w1 (w.heap.size + 1) 30 #[.int .i64 0, .int .i64 0, .slice none 0 0] := (Blk.new_ _ _ _ _ (by simp)).keep hb1
      have la := kA0.lt
      have lb := kA1.lt
      have s0 : w1.cell? ⟨w.heap.size, 0, none⟩ = some (.int .i64 now) := by rw [kA0.cell]; rfl
      have s1 : w1.cell? ⟨w.heap.size, 1, none⟩ = some (.int .i64 mx) := by rw [kA0.cell]; rfl
      have s2 : w1.cell? ⟨w.heap.size, 2, none⟩ = some (.slice A ls.length c) := by rw [kA0.cell]; rfl
      have sf0 : w1.frozen? ⟨w.heap.size, 0, none⟩ = false := kA0.free 0
      have sf1 : w1.frozen? ⟨w.heap.size, 1, none⟩ = false := kA0.free 1
      have sf2 : w1.frozen? ⟨w.heap.size, 2, none⟩ = false := kA0.free 2
      have t0 : w1.cell? ⟨w.heap.size + 1, 0, none⟩ = some (.int .i64 0) := by rw [kA1.cell]; rfl
      have t1 : w1.cell? ⟨w.heap.size + 1, 1, none⟩ = some (.int .i64 0) := by rw [kA1.cell]; rfl
      have t2 : w1.cell? ⟨w.heap.size + 1, 2, none⟩ = some (.slice none 0 0) := by rw [kA1.cell]; rfl
      have tf0 : w1.frozen? ⟨w.heap.size + 1, 0, none⟩ = false := kA1.free 0
      have tf1 : w1.frozen? ⟨w.heap.size + 1, 1, none⟩ = false := kA1.free 1
      have tf2 : w1.frozen? ⟨w.heap.size + 1, 2, none⟩ = false := kA1.free 2
      go_wp2
      refine bodyPost_ret (v := .tuple #[.agg #[.int .i64 now, .int .i64 mx, .slice A ls.length c], .int .i64 1]) (by simp [results, Try.results75, go_sem, t0, t1, t2]) rfl ⟨_, rfl, ?_, fun base hbs h => h.keep (((hY.setCell (p := ⟨w.heap.size + 1, 0, none⟩) (by simp) _).setCell (p := ⟨w.heap.size + 1, 1, none⟩) (by simp) _).setCell (p := ⟨w.heap.size + 1, 2, none⟩) (by simp) _), ?_⟩
      · exact hv.keep (((hY.setCell (p := ⟨w.heap.size + 1, 0, none⟩) (by simp) _).setCell (p := ⟨w.heap.size + 1, 1, none⟩) (by simp) _).setCell (p := ⟨w.heap.size + 1, 2, none⟩) (by simp) _)
      · exact ((hY.setCell (p := ⟨w.heap.size + 1, 0, none⟩) (by simp) _).setCell (p := ⟨w.heap.size + 1, 1, none⟩) (by simp) _).setCell (p := ⟨w.heap.size + 1, 2, none⟩) (by simp) _
    by_cases h2 : 4 ≤ who
    · rw [show takeL now mx ls i who = (1, ls) from by unfold takeL doL; rw [show someB who = false from by simp [someB]; omega]; simp]
      clear hm
      go_enter Try.func75, Try.ntmps75
      go_wp2_with fail
      refine (hmay _ _ (hv.sl.below hb0)).mono ?_
      rintro e w1 ⟨rfl, hb1⟩
      have hY := hb0.trans (hb1.mono (by simp; try omega))
      have kA0 : Blk w1 w.heap.size 30 #[.int .i64 now, .int .i64 mx, .slice A ls.length c] := ((Blk.new_ w _ _ _ rfl).alloc _).keep hb1
      have kA1 : Blk w1 (w.heap.size + 1) 30 #[.int .i64 0, .int .i64 0, .slice none 0 0] := (Blk.new_ _ _ _ _ (by simp)).keep hb1
      have la := kA0.lt
      have lb := kA1.lt
      have s0 : w1.cell? ⟨w.heap.size, 0, none⟩ = some (.int .i64 now) := by rw [kA0.cell]; rfl
      have s1 : w1.cell? ⟨w.heap.size, 1, none⟩ = some (.int .i64 mx) := by rw [kA0.cell]; rfl
      have s2 : w1.cell? ⟨w.heap.size, 2, none⟩ = some (.slice A ls.length c) := by rw [kA0.cell]; rfl
      have sf0 : w1.frozen? ⟨w.heap.size, 0, none⟩ = false := kA0.free 0
      have sf1 : w1.frozen? ⟨w.heap.size, 1, none⟩ = false := kA0.free 1
      have sf2 : w1.frozen? ⟨w.heap.size, 2, none⟩ = false := kA0.free 2
      have t0 : w1.cell? ⟨w.heap.size + 1, 0, none⟩ = some (.int .i64 0) := by rw [kA1.cell]; rfl
      have t1 : w1.cell? ⟨w.heap.size + 1, 1, none⟩ = some (.int .i64 0) := by rw [kA1.cell]; rfl
      have t2 : w1.cell? ⟨w.heap.size + 1, 2, none⟩ = some (.slice none 0 0) := by rw [kA1.cell]; rfl
      have tf0 : w1.frozen? ⟨w.heap.size + 1, 0, none⟩ = false := kA1.free 0
      have tf1 : w1.frozen? ⟨w.heap.size + 1, 1, none⟩ = false := kA1.free 1
      have tf2 : w1.frozen? ⟨w.heap.size + 1, 2, none⟩ = false := kA1.free 2
      go_wp2
      refine bodyPost_ret (v := .tuple #[.agg #[.int .i64 now, .int .i64 mx, .slice A ls.length c], .int .i64 1]) (by simp [results, Try.results75, go_sem, t0, t1, t2]) rfl ⟨_, rfl, ?_, fun base hbs h => h.keep (((hY.setCell (p := ⟨w.heap.size + 1, 0, none⟩) (by simp) _).setCell (p := ⟨w.heap.size + 1, 1, none⟩) (by simp) _).setCell (p := ⟨w.heap.size + 1, 2, none⟩) (by simp) _), ?_⟩
      · exact hv.keep (((hY.setCell (p := ⟨w.heap.size + 1, 0, none⟩) (by simp) _).setCell (p := ⟨w.heap.size + 1, 1, none⟩) (by simp) _).setCell (p := ⟨w.heap.size + 1, 2, none⟩) (by simp) _)
      · exact ((hY.setCell (p := ⟨w.heap.size + 1, 0, none⟩) (by simp) _).setCell (p := ⟨w.heap.size + 1, 1, none⟩) (by simp) _).setCell (p := ⟨w.heap.size + 1, 2, none⟩) (by simp) _
    have hsb : someB who = true := by simp [someB]; omega
    by_cases h3 : i < 0
    · rw [show takeL now mx ls i who = (11, ls) from by unfold takeL doL; rw [hm, hsb, if_pos (by rfl), dif_neg (by omega)]]
      clear hm hsb
      go_enter Try.func75, Try.ntmps75
      go_wp2_with fail
      refine (hmay _ _ (hv.sl.below hb0)).mono ?_
      rintro e w1 ⟨rfl, hb1⟩
      have hY := hb0.trans (hb1.mono (by simp; try omega))
      have kA0 : Blk w1 w.heap.size 30 #[.int .i64 now, .int .i64 mx, .slice A ls.length c] := ((Blk.new_ w _ _ _ rfl).alloc _).keep hb1
      have kA1 : Blk w1 (w.heap.size + 1) 30 #[.int .i64 0, .int .i64 0, .slice none 0 0] := (Blk.new_ _ _ _ _ (by simp)).keep hb1
      have la := kA0.lt
      have lb := kA1.lt
      have s0 : w1.cell? ⟨w.heap.size, 0, none⟩ = some (.int .i64 now) := by rw [kA0.cell]; rfl
      have s1 : w1.cell? ⟨w.heap.size, 1, none⟩ = some (.int .i64 mx) := by rw [kA0.cell]; rfl
      have s2 : w1.cell? ⟨w.heap.size, 2, none⟩ = some (.slice A ls.length c) := by rw [kA0.cell]; rfl
      have sf0 : w1.frozen? ⟨w.heap.size, 0, none⟩ = false := kA0.free 0
      have sf1 : w1.frozen? ⟨w.heap.size, 1, none⟩ = false := kA0.free 1
      have sf2 : w1.frozen? ⟨w.heap.size, 2, none⟩ = false := kA0.free 2
      have t0 : w1.cell? ⟨w.heap.size + 1, 0, none⟩ = some (.int .i64 0) := by rw [kA1.cell]; rfl
      have t1 : w1.cell? ⟨w.heap.size + 1, 1, none⟩ = some (.int .i64 0) := by rw [kA1.cell]; rfl
      have t2 : w1.cell? ⟨w.heap.size + 1, 2, none⟩ = some (.slice none 0 0) := by rw [kA1.cell]; rfl
      have tf0 : w1.frozen? ⟨w.heap.size + 1, 0, none⟩ = false := kA1.free 0
      have tf1 : w1.frozen? ⟨w.heap.size + 1, 1, none⟩ = false := kA1.free 1
      have tf2 : w1.frozen? ⟨w.heap.size + 1, 2, none⟩ = false := kA1.free 2
      go_wp2
      refine bodyPost_ret (v := .tuple #[.agg #[.int .i64 now, .int .i64 mx, .slice A ls.length c], .int .i64 11]) (by simp [results, Try.results75, go_sem, t0, t1, t2]) rfl ⟨_, rfl, ?_, fun base hbs h => h.keep (((hY.setCell (p := ⟨w.heap.size + 1, 0, none⟩) (by simp) _).setCell (p := ⟨w.heap.size + 1, 1, none⟩) (by simp) _).setCell (p := ⟨w.heap.size + 1, 2, none⟩) (by simp) _), ?_⟩
      · exact hv.keep (((hY.setCell (p := ⟨w.heap.size + 1, 0, none⟩) (by simp) _).setCell (p := ⟨w.heap.size + 1, 1, none⟩) (by simp) _).setCell (p := ⟨w.heap.size + 1, 2, none⟩) (by simp) _)
      · exact ((hY.setCell (p := ⟨w.heap.size + 1, 0, none⟩) (by simp) _).setCell (p := ⟨w.heap.size + 1, 1, none⟩) (by simp) _).setCell (p := ⟨w.heap.size + 1, 2, none⟩) (by simp) _
    by_cases h4 : (ls.length : Int) ≤ i
    · rw [show takeL now mx ls i who = (11, ls) from by unfold takeL doL; rw [hm, hsb, if_pos (by rfl), dif_neg (by omega)]]
      clear hm hsb
      go_enter Try.func75, Try.ntmps75
      go_wp2_with fail
      refine (hmay _ _ (hv.sl.below hb0)).mono ?_
      rintro e w1 ⟨rfl, hb1⟩
      have hY := hb0.trans (hb1.mono (by simp; try omega))
      have kA0 : Blk w1 w.heap.size 30 #[.int .i64 now, .int .i64 mx, .slice A ls.length c] := ((Blk.new_ w _ _ _ rfl).alloc _).keep hb1
      have kA1 : Blk w1 (w.heap.size + 1) 30 #[.int .i64 0, .int .i64 0, .slice none 0 0] := (Blk.new_ _ _ _ _ (by simp)).keep hb1
      have la := kA0.lt
      have lb := kA1.lt
      have s0 : w1.cell? ⟨w.heap.size, 0, none⟩ = some (.int .i64 now) := by rw [kA0.cell]; rfl
      have s1 : w1.cell? ⟨w.heap.size, 1, none⟩ = some (.int .i64 mx) := by rw [kA0.cell]; rfl
      have s2 : w1.cell? ⟨w.heap.size, 2, none⟩ = some (.slice A ls.length c) := by rw [kA0.cell]; rfl
      have sf0 : w1.frozen? ⟨w.heap.size, 0, none⟩ = false := kA0.free 0
      have sf1 : w1.frozen? ⟨w.heap.size, 1, none⟩ = false := kA0.free 1
      have sf2 : w1.frozen? ⟨w.heap.size, 2, none⟩ = false := kA0.free 2
      have t0 : w1.cell? ⟨w.heap.size + 1, 0, none⟩ = some (.int .i64 0) := by rw [kA1.cell]; rfl
      have t1 : w1.cell? ⟨w.heap.size + 1, 1, none⟩ = some (.int .i64 0) := by rw [kA1.cell]; rfl
      have t2 : w1.cell? ⟨w.heap.size + 1, 2, none⟩ = some (.slice none 0 0) := by rw [kA1.cell]; rfl
      have tf0 : w1.frozen? ⟨w.heap.size + 1, 0, none⟩ = false := kA1.free 0
      have tf1 : w1.frozen? ⟨w.heap.size + 1, 1, none⟩ = false := kA1.free 1
      have tf2 : w1.frozen? ⟨w.heap.size + 1, 2, none⟩ = false := kA1.free 2
      go_wp2
      refine bodyPost_ret (v := .tuple #[.agg #[.int .i64 now, .int .i64 mx, .slice A ls.length c], .int .i64 11]) (by simp [results, Try.results75, go_sem, t0, t1, t2]) rfl ⟨_, rfl, ?_, fun base hbs h => h.keep (((hY.setCell (p := ⟨w.heap.size + 1, 0, none⟩) (by simp) _).setCell (p := ⟨w.heap.size + 1, 1, none⟩) (by simp) _).setCell (p := ⟨w.heap.size + 1, 2, none⟩) (by simp) _), ?_⟩
      · exact hv.keep (((hY.setCell (p := ⟨w.heap.size + 1, 0, none⟩) (by simp) _).setCell (p := ⟨w.heap.size + 1, 1, none⟩) (by simp) _).setCell (p := ⟨w.heap.size + 1, 2, none⟩) (by simp) _)
      · exact ((hY.setCell (p := ⟨w.heap.size + 1, 0, none⟩) (by simp) _).setCell (p := ⟨w.heap.size + 1, 1, none⟩) (by simp) _).setCell (p := ⟨w.heap.size + 1, 2, none⟩) (by simp) _
    obtain ⟨k, rfl⟩ := Int.eq_ofNat_of_zero_le (Int.not_lt.1 h3)
    have hk : k < ls.length := by omega
    have hk0 : (0 : Int) ≤ (k : Int) := by omega
    have hk1 : (k : Int) < (ls.length : Int) := by omega
    rw [take_in hm hk (by omega) (by omega)]
    have hwith := fun v y W h => with_any v now mx k y ls W h hk hn
    obtain ⟨b, o, rfl, hlt, hel⟩ := Sl.pos encL encL_len hv.sl (by omega)
    have hel := fun W hW => hel W hW k hk
    generalize ls[k] = x at *
    have HK := Lib.hid hk
    clear hm hsb hn hk
    cases hf : freeH who x with
    | false =>
      have f1 : (x.o != -1) = true := by simp [freeH] at hf; simpa using hf.1
      have f2 : (x.o != who) = true := by simp [freeH] at hf; simpa using hf.2
      clear hf
      simp only [Bool.false_eq_true, if_false]
      go_enter Try.func75, Try.ntmps75
      go_wp2_with fail
      refine (hmay _ _ (hv.sl.below hb0)).mono ?_
      rintro e w1 ⟨rfl, hb1⟩
      have hY := hb0.trans (hb1.mono (by simp; try omega))
      have kA0 : Blk w1 w.heap.size 30 #[.int .i64 now, .int .i64 mx, .slice (some ⟨b, o, none⟩) ls.length c] := ((Blk.new_ w _ _ _ rfl).alloc _).keep hb1
      have kA1 : Blk w1 (w.heap.size + 1) 30 #[.int .i64 0, .int .i64 0, .slice none 0 0] := (Blk.new_ _ _ _ _ (by simp)).keep hb1
      have la := kA0.lt
      have lb := kA1.lt
      have s0 : w1.cell? ⟨w.heap.size, 0, none⟩ = some (.int .i64 now) := by rw [kA0.cell]; rfl
      have s1 : w1.cell? ⟨w.heap.size, 1, none⟩ = some (.int .i64 mx) := by rw [kA0.cell]; rfl
      have s2 : w1.cell? ⟨w.heap.size, 2, none⟩ = some (.slice (some ⟨b, o, none⟩) ls.length c) := by rw [kA0.cell]; rfl
      have sf0 : w1.frozen? ⟨w.heap.size, 0, none⟩ = false := kA0.free 0
      have sf1 : w1.frozen? ⟨w.heap.size, 1, none⟩ = false := kA0.free 1
      have sf2 : w1.frozen? ⟨w.heap.size, 2, none⟩ = false := kA0.free 2
      have t0 : w1.cell? ⟨w.heap.size + 1, 0, none⟩ = some (.int .i64 0) := by rw [kA1.cell]; rfl
      have t1 : w1.cell? ⟨w.heap.size + 1, 1, none⟩ = some (.int .i64 0) := by rw [kA1.cell]; rfl
      have t2 : w1.cell? ⟨w.heap.size + 1, 2, none⟩ = some (.slice none 0 0) := by rw [kA1.cell]; rfl
      have tf0 : w1.frozen? ⟨w.heap.size + 1, 0, none⟩ = false := kA1.free 0
      have tf1 : w1.frozen? ⟨w.heap.size + 1, 1, none⟩ = false := kA1.free 1
      have tf2 : w1.frozen? ⟨w.heap.size + 1, 2, none⟩ = false := kA1.free 2
      have e0 := hel w1 hY 0 _ rfl
      have e1 := hel w1 hY 1 _ rfl
      simp only [Nat.add_zero] at e0
      have hlw : b < w1.heap.size := Nat.lt_of_lt_of_le hlt hY.size
      clear hel
      go_wp2
      refine bodyPost_ret (v := .tuple #[.agg #[.int .i64 now, .int .i64 mx, .slice (some ⟨b, o, none⟩) ls.length c], .int .i64 10]) (by simp [results, Try.results75, go_sem, t0, t1, t2, lb]) rfl ⟨_, rfl, ?_, fun base hbs h => h.keep ((((hY.setCell (p := ⟨w.heap.size + 1, 0, none⟩) (by simp) _).setCell (p := ⟨w.heap.size + 1, 1, none⟩) (by simp) _).setCell (p := ⟨w.heap.size + 1, 2, none⟩) (by simp) _).alloc (by simp only [World.size_setCell]; exact hY.size) _), ?_⟩
      · exact hv.keep ((((hY.setCell (p := ⟨w.heap.size + 1, 0, none⟩) (by simp) _).setCell (p := ⟨w.heap.size + 1, 1, none⟩) (by simp) _).setCell (p := ⟨w.heap.size + 1, 2, none⟩) (by simp) _).alloc (by simp only [World.size_setCell]; exact hY.size) _)
      · exact (((hY.setCell (p := ⟨w.heap.size + 1, 0, none⟩) (by simp) _).setCell (p := ⟨w.heap.size + 1, 1, none⟩) (by simp) _).setCell (p := ⟨w.heap.size + 1, 2, none⟩) (by simp) _).alloc (by simp only [World.size_setCell]; exact hY.size) _
    | true =>
      simp only [if_true]
      have fr : (x.o == -1) = false → (x.o == who) = true := fun h => by simpa [freeH, h] using hf
      clear hf
      cases g1 : (x.o == -1) with
      | true =>
        have g2 : (x.o != -1) = false := by simpa using g1
        clear fr
        go_enter Try.func75, Try.ntmps75
        go_wp2_with fail
        refine (hmay _ _ (hv.sl.below hb0)).mono ?_
        rintro e w1 ⟨rfl, hb1⟩
        have hY := hb0.trans (hb1.mono (by simp; try omega))
        have kA0 : Blk w1 w.heap.size 30 #[.int .i64 now, .int .i64 mx, .slice (some ⟨b, o, none⟩) ls.length c] := ((Blk.new_ w _ _ _ rfl).alloc _).keep hb1
        have kA1 : Blk w1 (w.heap.size + 1) 30 #[.int .i64 0, .int .i64 0, .slice none 0 0] := (Blk.new_ _ _ _ _ (by simp)).keep hb1
        have la := kA0.lt
        have lb := kA1.lt
        have s0 : w1.cell? ⟨w.heap.size, 0, none⟩ = some (.int .i64 now) := by rw [kA0.cell]; rfl
        have s1 : w1.cell? ⟨w.heap.size, 1, none⟩ = some (.int .i64 mx) := by rw [kA0.cell]; rfl
        have s2 : w1.cell? ⟨w.heap.size, 2, none⟩ = some (.slice (some ⟨b, o, none⟩) ls.length c) := by rw [kA0.cell]; rfl
        have sf0 : w1.frozen? ⟨w.heap.size, 0, none⟩ = false := kA0.free 0
        have sf1 : w1.frozen? ⟨w.heap.size, 1, none⟩ = false := kA0.free 1
        have sf2 : w1.frozen? ⟨w.heap.size, 2, none⟩ = false := kA0.free 2
        have t0 : w1.cell? ⟨w.heap.size + 1, 0, none⟩ = some (.int .i64 0) := by rw [kA1.cell]; rfl
        have t1 : w1.cell? ⟨w.heap.size + 1, 1, none⟩ = some (.int .i64 0) := by rw [kA1.cell]; rfl
        have t2 : w1.cell? ⟨w.heap.size + 1, 2, none⟩ = some (.slice none 0 0) := by rw [kA1.cell]; rfl
        have tf0 : w1.frozen? ⟨w.heap.size + 1, 0, none⟩ = false := kA1.free 0
        have tf1 : w1.frozen? ⟨w.heap.size + 1, 1, none⟩ = false := kA1.free 1
        have tf2 : w1.frozen? ⟨w.heap.size + 1, 2, none⟩ = false := kA1.free 2
        have e0 := hel w1 hY 0 _ rfl
        have e1 := hel w1 hY 1 _ rfl
        simp only [Nat.add_zero] at e0
        have hlw : b < w1.heap.size := Nat.lt_of_lt_of_le hlt hY.size
        clear hel
        go_wp2_with fail
        have hA1 := (Below.refl w1.heap.size w1).alloc (Nat.le_refl _) (.cells #[.int .i64 x.v, .int .i64 who] 43)
        refine (hwith _ ⟨x.v, who⟩ _ (((hv.keep hY).keep hA1))).mono ?_
        rintro e w2 ⟨v2, rfl, hst2, hb2⟩
        have hY2 := (hY.trans (hA1.mono hY.size)).trans (hb2.mono (hY.trans (hA1.mono hY.size)).size)
        have kB1 := (kA1.keep hA1).keep hb2
        obtain ⟨sv2, rfl, hrow2⟩ := hst2
        unfold RowL at hrow2
        rw [List.length_set] at hrow2
        obtain ⟨A2, c2, rfl, _, _⟩ := (Sl.of_own hrow2).form
        clear kA0 kA1 s0 s1 s2 sf0 sf1 sf2 t0 t1 t2 tf0 tf1 tf2
        have t0 : w2.cell? ⟨w.heap.size + 1, 0, none⟩ = some (.int .i64 0) := by rw [kB1.cell]; rfl
        have t1 : w2.cell? ⟨w.heap.size + 1, 1, none⟩ = some (.int .i64 0) := by rw [kB1.cell]; rfl
        have t2 : w2.cell? ⟨w.heap.size + 1, 2, none⟩ = some (.slice none 0 0) := by rw [kB1.cell]; rfl
        have tf0 : w2.frozen? ⟨w.heap.size + 1, 0, none⟩ = false := kB1.free 0
        have tf1 : w2.frozen? ⟨w.heap.size + 1, 1, none⟩ = false := kB1.free 1
        have tf2 : w2.frozen? ⟨w.heap.size + 1, 2, none⟩ = false := kB1.free 2
        go_wp2
        refine bodyPost_ret (v := .tuple #[.agg #[.int .i64 now, .int .i64 mx, .slice A2 ls.length c2], .int .i64 0]) (by simp [results, Try.results75, go_sem, t0, t1, t2]) rfl ⟨_, rfl, ⟨_, rfl, ?_⟩, fun base hbs h => ⟨_, rfl, ?_⟩, ?_⟩
        · show Sl _ _ _ (ls.set k _).length _
          rw [List.length_set]
          have hzz := hY.size
          exact Sl.of_own (ownsRow_setCell_below (ownsRow_setCell_below (ownsRow_setCell_below hrow2 (a := ⟨w.heap.size + 1, 0, none⟩) (by simp; omega) _) (a := ⟨w.heap.size + 1, 1, none⟩) (by simp; omega) _) (a := ⟨w.heap.size + 1, 2, none⟩) (by simp; omega) _)
        · show World.ownsRow _ _ _ _ _ (ls.set k _).length _
          rw [List.length_set]
          have hzz := hY.size
          exact ownsRow_mono (ownsRow_setCell_below (ownsRow_setCell_below (ownsRow_setCell_below hrow2 (a := ⟨w.heap.size + 1, 0, none⟩) (by simp; omega) _) (a := ⟨w.heap.size + 1, 1, none⟩) (by simp; omega) _) (a := ⟨w.heap.size + 1, 2, none⟩) (by simp; omega) _) (by simp at hzz ⊢; omega)
        · exact ((hY2.setCell (p := ⟨w.heap.size + 1, 0, none⟩) (by simp) _).setCell (p := ⟨w.heap.size + 1, 1, none⟩) (by simp) _).setCell (p := ⟨w.heap.size + 1, 2, none⟩) (by simp) _
      | false =>
        have g2 : (x.o != -1) = true := by simpa using g1
        have g3 := fr g1
        have g4 : (x.o != who) = false := by simpa using g3
        clear fr
        go_enter Try.func75, Try.ntmps75
        go_wp2_with fail
        refine (hmay _ _ (hv.sl.below hb0)).mono ?_
        rintro e w1 ⟨rfl, hb1⟩
        have hY := hb0.trans (hb1.mono (by simp; try omega))
        have kA0 : Blk w1 w.heap.size 30 #[.int .i64 now, .int .i64 mx, .slice (some ⟨b, o, none⟩) ls.length c] := ((Blk.new_ w _ _ _ rfl).alloc _).keep hb1
        have kA1 : Blk w1 (w.heap.size + 1) 30 #[.int .i64 0, .int .i64 0, .slice none 0 0] := (Blk.new_ _ _ _ _ (by simp)).keep hb1
        have la := kA0.lt
        have lb := kA1.lt
        have s0 : w1.cell? ⟨w.heap.size, 0, none⟩ = some (.int .i64 now) := by rw [kA0.cell]; rfl
        have s1 : w1.cell? ⟨w.heap.size, 1, none⟩ = some (.int .i64 mx) := by rw [kA0.cell]; rfl
        have s2 : w1.cell? ⟨w.heap.size, 2, none⟩ = some (.slice (some ⟨b, o, none⟩) ls.length c) := by rw [kA0.cell]; rfl
        have sf0 : w1.frozen? ⟨w.heap.size, 0, none⟩ = false := kA0.free 0
        have sf1 : w1.frozen? ⟨w.heap.size, 1, none⟩ = false := kA0.free 1
        have sf2 : w1.frozen? ⟨w.heap.size, 2, none⟩ = false := kA0.free 2
        have t0 : w1.cell? ⟨w.heap.size + 1, 0, none⟩ = some (.int .i64 0) := by rw [kA1.cell]; rfl
        have t1 : w1.cell? ⟨w.heap.size + 1, 1, none⟩ = some (.int .i64 0) := by rw [kA1.cell]; rfl
        have t2 : w1.cell? ⟨w.heap.size + 1, 2, none⟩ = some (.slice none 0 0) := by rw [kA1.cell]; rfl
        have tf0 : w1.frozen? ⟨w.heap.size + 1, 0, none⟩ = false := kA1.free 0
        have tf1 : w1.frozen? ⟨w.heap.size + 1, 1, none⟩ = false := kA1.free 1
        have tf2 : w1.frozen? ⟨w.heap.size + 1, 2, none⟩ = false := kA1.free 2
        have e0 := hel w1 hY 0 _ rfl
        have e1 := hel w1 hY 1 _ rfl
        simp only [Nat.add_zero] at e0
        have hlw : b < w1.heap.size := Nat.lt_of_lt_of_le hlt hY.size
        clear hel
        go_wp2_with fail
        have hA1 := (Below.refl w1.heap.size w1).alloc (Nat.le_refl _) (.cells #[.int .i64 x.v, .int .i64 who] 43)
        refine (hwith _ ⟨x.v, who⟩ _ (((hv.keep hY).keep hA1))).mono ?_
        rintro e w2 ⟨v2, rfl, hst2, hb2⟩
        have hY2 := (hY.trans (hA1.mono hY.size)).trans (hb2.mono (hY.trans (hA1.mono hY.size)).size)
        have kB1 := (kA1.keep hA1).keep hb2
        obtain ⟨sv2, rfl, hrow2⟩ := hst2
        unfold RowL at hrow2
        rw [List.length_set] at hrow2
        obtain ⟨A2, c2, rfl, _, _⟩ := (Sl.of_own hrow2).form
        clear kA0 kA1 s0 s1 s2 sf0 sf1 sf2 t0 t1 t2 tf0 tf1 tf2
        have t0 : w2.cell? ⟨w.heap.size + 1, 0, none⟩ = some (.int .i64 0) := by rw [kB1.cell]; rfl
        have t1 : w2.cell? ⟨w.heap.size + 1, 1, none⟩ = some (.int .i64 0) := by rw [kB1.cell]; rfl
        have t2 : w2.cell? ⟨w.heap.size + 1, 2, none⟩ = some (.slice none 0 0) := by rw [kB1.cell]; rfl
        have tf0 : w2.frozen? ⟨w.heap.size + 1, 0, none⟩ = false := kB1.free 0
        have tf1 : w2.frozen? ⟨w.heap.size + 1, 1, none⟩ = false := kB1.free 1
        have tf2 : w2.frozen? ⟨w.heap.size + 1, 2, none⟩ = false := kB1.free 2
        go_wp2
        refine bodyPost_ret (v := .tuple #[.agg #[.int .i64 now, .int .i64 mx, .slice A2 ls.length c2], .int .i64 0]) (by simp [results, Try.results75, go_sem, t0, t1, t2]) rfl ⟨_, rfl, ⟨_, rfl, ?_⟩, fun base hbs h => ⟨_, rfl, ?_⟩, ?_⟩
        · show Sl _ _ _ (ls.set k _).length _
          rw [List.length_set]
          have hzz := hY.size
          exact Sl.of_own (ownsRow_setCell_below (ownsRow_setCell_below (ownsRow_setCell_below hrow2 (a := ⟨w.heap.size + 1, 0, none⟩) (by simp; omega) _) (a := ⟨w.heap.size + 1, 1, none⟩) (by simp; omega) _) (a := ⟨w.heap.size + 1, 2, none⟩) (by simp; omega) _)
        · show World.ownsRow _ _ _ _ _ (ls.set k _).length _
          rw [List.length_set]
          have hzz := hY.size
          exact ownsRow_mono (ownsRow_setCell_below (ownsRow_setCell_below (ownsRow_setCell_below hrow2 (a := ⟨w.heap.size + 1, 0, none⟩) (by simp; omega) _) (a := ⟨w.heap.size + 1, 1, none⟩) (by simp; omega) _) (a := ⟨w.heap.size + 1, 2, none⟩) (by simp; omega) _) (by simp at hzz ⊢; omega)
        · exact ((hY2.setCell (p := ⟨w.heap.size + 1, 0, none⟩) (by simp) _).setCell (p := ⟨w.heap.size + 1, 1, none⟩) (by simp) _).setCell (p := ⟨w.heap.size + 1, 2, none⟩) (by simp) _
end Go.Proofs.Ytngimbfojccikaa
