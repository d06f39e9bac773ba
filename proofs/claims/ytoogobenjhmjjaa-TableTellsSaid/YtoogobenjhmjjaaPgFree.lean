/- page.Free. -/
import Derived.Test.YtoogobenjhmjjaaPgShare
namespace Go.Proofs.Ytoogobenjhmjjaa
open Go Go.RowKit

set_option maxHeartbeats 1000000 in
theorem Free_any (v : Value) (cap : Int) (ps : List Pg) (p : Int) (w : World) (hv : StV w v cap ps) (hn : ps.length ≤ 1000) :
    Calls Try.prog 68 #[v, .int .i64 p] w fun e w' => ∃ v', e = .returned (.tuple #[v', .int .i64 (freeX cap ps p).1]) ∧ StV w' v' cap (freeX cap ps p).2 ∧ Below w.heap.size w w' := by
  obtain ⟨sv, rfl, hsl⟩ := hv
  have hb0 : Below w.heap.size w ((w.alloc (.cells #[.int .i64 cap, sv] 25)).alloc (.cells #[.int .i64 0, .slice none 0 0] 25)) := ((Below.refl _ w).alloc (Nat.le_refl _) _).alloc (by simp) _
  have hown := own_any cap sv ps _ (hsl.below hb0) hn
  have hhad := fun base pv W hs => had_any base pv cap ps p W hs
  obtain ⟨A, c, rfl, _, _⟩ := hsl.form
  cases hh : (hadL cap ps p != 0) with
  | true =>
    rw [show freeX cap ps p = (hadL cap ps p, ps) from by
      have : ¬ hadL cap ps p = 0 := by simpa using hh
      simp [freeX, this]]
    generalize hadL cap ps p = er at hhad hh ⊢
    generalize hnn : ps.length = n at *
    have HN := Lib.hid hnn
    clear hnn
    go_enter Try.func68, Try.ntmps68
    go_wp2_with fail
    refine hown.mono ?_
    rintro e w1 ⟨pv, rfl, hst, hb1⟩
    obtain ⟨hc1, hf1⟩ := bcell hb1
    have hz1 := hb1.size
    simp at hz1
    have z1 : w.heap.size < w1.heap.size := by omega
    have z2 : w.heap.size + 1 < w1.heap.size := by omega
    go_wp2_with fail
    refine (hhad _ _ _ hst).mono ?_
    rintro e w2 ⟨rfl, hb2⟩
    have hz2 := hb2.size
    have y1 : w2.cell? ⟨w.heap.size + 1, 0, none⟩ = some (.int .i64 0) := by rw [hb2.cell (p := ⟨w.heap.size + 1, 0, none⟩) (by simp; omega), hc1 _ _ (by simp)]; simp
    have y2 : w2.cell? ⟨w.heap.size + 1, 1, none⟩ = some (.slice none 0 0) := by rw [hb2.cell (p := ⟨w.heap.size + 1, 1, none⟩) (by simp; omega), hc1 _ _ (by simp)]; simp
    have y3 : w2.frozen? ⟨w.heap.size + 1, 0, none⟩ = false := by rw [hb2.frozen (p := ⟨w.heap.size + 1, 0, none⟩) (by simp; omega), hf1 _ _ (by simp)]; simp
    have y4 : w2.frozen? ⟨w.heap.size + 1, 1, none⟩ = false := by rw [hb2.frozen (p := ⟨w.heap.size + 1, 1, none⟩) (by simp; omega), hf1 _ _ (by simp)]; simp
    clear hc1 hf1
    have hst2 := hst.below hb2
    obtain ⟨B, A1, c1, rfl, hB, hBlt, b0, b1, ho1, _⟩ := hst2.read
    simp at hB
    go_wp2
    refine bodyPost_ret (v := .tuple #[.agg #[.int .i64 cap, .slice A1 ps.length c1], .int .i64 er]) (by simp [results, Try.results68, go_sem, y1, y2]) rfl ⟨_, rfl, ⟨_, rfl, ?_⟩, ?_⟩
    · exact Sl.of_own (ownsRow_setCell_below (ownsRow_setCell_below ho1 (by simp) _) (by simp) _)
    · exact (((hb0.trans (hb1.mono (by simp; omega))).trans (hb2.mono (by omega))).setCell (by simp) _).setCell (by simp) _
  | false =>
    have hh' : hadL cap ps p = 0 := by simpa using hh
    obtain ⟨hmay, k, rfl, hk, _, hr1, hr2⟩ := had_ok hh'
    rw [hh'] at hhad
    rw [show freeX cap ps k = (0, freeL ps k) from by simp [freeX, hh']]
    have hfr := fun (base : Nat) (pv : Value) (W : World) hs => free_any base pv cap ps k W hs hk (by omega) hr2
    clear hh hh' hmay hr1 hr2
    generalize freeL ps k = qs at hfr ⊢
    have hk' := Lib.hid hk
    clear hk
    generalize hnn : ps.length = n at *
    have HN := Lib.hid hnn
    clear hnn
    go_enter Try.func68, Try.ntmps68
    go_wp2_with fail
    refine hown.mono ?_
    rintro e w1 ⟨pv, rfl, hst, hb1⟩
    obtain ⟨hc1, hf1⟩ := bcell hb1
    have hz1 := hb1.size
    simp at hz1
    have z1 : w.heap.size < w1.heap.size := by omega
    have z2 : w.heap.size + 1 < w1.heap.size := by omega
    go_wp2_with fail
    refine (hhad _ _ _ hst).mono ?_
    rintro e w2 ⟨rfl, hb2⟩
    have hz2 := hb2.size
    have y1 : w2.cell? ⟨w.heap.size + 1, 0, none⟩ = some (.int .i64 0) := by rw [hb2.cell (p := ⟨w.heap.size + 1, 0, none⟩) (by simp; omega), hc1 _ _ (by simp)]; simp
    have y2 : w2.cell? ⟨w.heap.size + 1, 1, none⟩ = some (.slice none 0 0) := by rw [hb2.cell (p := ⟨w.heap.size + 1, 1, none⟩) (by simp; omega), hc1 _ _ (by simp)]; simp
    have y3 : w2.frozen? ⟨w.heap.size + 1, 0, none⟩ = false := by rw [hb2.frozen (p := ⟨w.heap.size + 1, 0, none⟩) (by simp; omega), hf1 _ _ (by simp)]; simp
    have y4 : w2.frozen? ⟨w.heap.size + 1, 1, none⟩ = false := by rw [hb2.frozen (p := ⟨w.heap.size + 1, 1, none⟩) (by simp; omega), hf1 _ _ (by simp)]; simp
    clear hc1 hf1
    have hst2 := hst.below hb2
    go_wp2_with fail
    refine (hfr _ _ _ hst2).mono ?_
    rintro e w3 ⟨rfl, hst3, hb3⟩
    have hz3 := hb3.size
    have x1 : w3.cell? ⟨w.heap.size + 1, 0, none⟩ = some (.int .i64 0) := (hb3.cell (p := ⟨w.heap.size + 1, 0, none⟩) (by simp)).trans y1
    have x2 : w3.cell? ⟨w.heap.size + 1, 1, none⟩ = some (.slice none 0 0) := (hb3.cell (p := ⟨w.heap.size + 1, 1, none⟩) (by simp)).trans y2
    have x3 : w3.frozen? ⟨w.heap.size + 1, 0, none⟩ = false := (hb3.frozen (p := ⟨w.heap.size + 1, 0, none⟩) (by simp)).trans y3
    have x4 : w3.frozen? ⟨w.heap.size + 1, 1, none⟩ = false := (hb3.frozen (p := ⟨w.heap.size + 1, 1, none⟩) (by simp)).trans y4
    obtain ⟨B, A1, c1, rfl, hB, hBlt, b0, b1, ho1, _⟩ := hst3.read
    simp at hB
    clear y1 y2 y3 y4
    go_wp2
    refine bodyPost_ret (v := .tuple #[.agg #[.int .i64 cap, .slice A1 qs.length c1], .int .i64 0]) (by simp [results, Try.results68, go_sem, x1, x2]) rfl ⟨_, rfl, ⟨_, rfl, ?_⟩, ?_⟩
    · exact Sl.of_own (ownsRow_setCell_below (ownsRow_setCell_below ho1 (by simp) _) (by simp) _)
    · exact ((((hb0.trans (hb1.mono (by simp; omega))).trans (hb2.mono (by omega))).trans (hb3.mono (by simp; omega))).setCell (by simp) _).setCell (by simp) _
end Go.Proofs.Ytoogobenjhmjjaa
