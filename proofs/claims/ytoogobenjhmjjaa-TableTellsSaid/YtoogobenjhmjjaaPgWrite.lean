/- page.Write, where nothing is written. -/
import Derived.Test.YtoogobenjhmjjaaPgFree
namespace Go.Proofs.Ytoogobenjhmjjaa
open Go Go.RowKit

/-- A page, one of its words turned. -/
def wset (x : Pg) (i v : Int) : Pg := if i = 0 then { x with a := v } else if i = 1 then { x with b := v } else if i = 2 then { x with c := v } else { x with d := v }

/-- What Write comes to: the place, the error, the pages. -/
def writeL (cap : Int) (ps : List Pg) (p i v : Int) : Int × Int × List Pg :=
  if hadL cap ps p = 0 then
    (if 0 ≤ i ∧ i < 4 then
      (if (pgAt ps p).r = 1 then (p, 0, ps.set p.toNat (wset (pgAt ps p) i v))
       else (if (allocL cap ps (wset (pgAt ps p) i v)).2.1 = 0 then ((allocL cap ps (wset (pgAt ps p) i v)).1, 0, freeL (allocL cap ps (wset (pgAt ps p) i v)).2.2 p.toNat) else allocL cap ps (wset (pgAt ps p) i v)))
     else (-1, 11, ps))
  else (-1, hadL cap ps p, ps)

set_option maxHeartbeats 1000000 in
theorem Write_not (v : Value) (cap : Int) (ps : List Pg) (p i u : Int) (w : World) (hv : StV w v cap ps) (hn : ps.length ≤ 1000) (h : ¬ (hadL cap ps p = 0 ∧ 0 ≤ i ∧ i < 4)) :
    Calls Try.prog 35 #[v, .int .i64 p, .int .i64 i, .int .i64 u] w fun e w' => ∃ v', e = .returned (.tuple #[v', .int .i64 (writeL cap ps p i u).1, .int .i64 (writeL cap ps p i u).2.1]) ∧ StV w' v' cap (writeL cap ps p i u).2.2 ∧ Below w.heap.size w w' := by
  obtain ⟨sv, rfl, hsl⟩ := hv
  have hb0 : Below w.heap.size w ((w.alloc (.cells #[.int .i64 cap, sv] 25)).alloc (.cells #[.int .i64 0, .slice none 0 0] 25)) := ((Below.refl _ w).alloc (Nat.le_refl _) _).alloc (by simp) _
  have hown := own_any cap sv ps _ (hsl.below hb0) hn
  have hhad := fun base pv W hs => had_any base pv cap ps p W hs
  obtain ⟨A, c, rfl, _, _⟩ := hsl.form
  cases hh : (hadL cap ps p == 0) with
  | false =>
    rw [show writeL cap ps p i u = (-1, hadL cap ps p, ps) from by
      have : ¬ hadL cap ps p = 0 := by simpa using hh
      simp [writeL, this]]
    clear h
    generalize hadL cap ps p = er at hhad hh ⊢
    have hh2 : (er != 0) = true := by simpa using hh
    generalize hnn : ps.length = n at *
    have HN := Lib.hid hnn
    clear hnn
    go_enter Try.func35, Try.ntmps35
    go_wp2_with fail
    refine hown.mono ?_
    rintro e w1 ⟨pv, rfl, hst, hb1⟩
    obtain ⟨hc1, hf1⟩ := bcell hb1
    have hz1 := hb1.size
    simp at hz1
    have z1 : w.heap.size < w1.heap.size := by omega
    have z2 : w.heap.size + 1 < w1.heap.size := by omega
    go_wp2_with fail
    refine (hhad _ _ _ hst).mono ?_
    rintro e w2 ⟨rfl, hb2⟩
    have hz2 := hb2.size
    have y1 : w2.cell? ⟨w.heap.size + 1, 0, none⟩ = some (.int .i64 0) := by rw [hb2.cell (p := ⟨w.heap.size + 1, 0, none⟩) (by simp; omega), hc1 _ _ (by simp)]; simp
    have y2 : w2.cell? ⟨w.heap.size + 1, 1, none⟩ = some (.slice none 0 0) := by rw [hb2.cell (p := ⟨w.heap.size + 1, 1, none⟩) (by simp; omega), hc1 _ _ (by simp)]; simp
    have y3 : w2.frozen? ⟨w.heap.size + 1, 0, none⟩ = false := by rw [hb2.frozen (p := ⟨w.heap.size + 1, 0, none⟩) (by simp; omega), hf1 _ _ (by simp)]; simp
    have y4 : w2.frozen? ⟨w.heap.size + 1, 1, none⟩ = false := by rw [hb2.frozen (p := ⟨w.heap.size + 1, 1, none⟩) (by simp; omega), hf1 _ _ (by simp)]; simp
    clear hc1 hf1
    have hst2 := hst.below hb2
    obtain ⟨B, A1, c1, rfl, hB, hBlt, b0, b1, ho1, _⟩ := hst2.read
    simp at hB
    go_wp2
    refine bodyPost_ret (v := .tuple #[.agg #[.int .i64 cap, .slice A1 ps.length c1], .int .i64 (-1), .int .i64 er]) (by simp [results, Try.results35, go_sem, y1, y2]) rfl ⟨_, rfl, ⟨_, rfl, ?_⟩, ?_⟩
    · exact Sl.of_own (ownsRow_setCell_below (ownsRow_setCell_below ho1 (by simp) _) (by simp) _)
    · exact (((hb0.trans (hb1.mono (by simp; omega))).trans (hb2.mono (by omega))).setCell (by simp) _).setCell (by simp) _
  | true =>
    have hh' : hadL cap ps p = 0 := by simpa using hh
    have hi : ¬ (0 ≤ i ∧ i < 4) := fun hi => h ⟨hh', hi⟩
    rw [show writeL cap ps p i u = (-1, 11, ps) from by simp [writeL, hh', hi]]
    rw [hh'] at hhad
    clear h hh hh'
    by_cases h0 : i < 0
    · clear hi
      generalize hnn : ps.length = n at *
      have HN := Lib.hid hnn
      clear hnn
      go_enter Try.func35, Try.ntmps35
      go_wp2_with fail
      refine hown.mono ?_
      rintro e w1 ⟨pv, rfl, hst, hb1⟩
      obtain ⟨hc1, hf1⟩ := bcell hb1
      have hz1 := hb1.size
      simp at hz1
      have z1 : w.heap.size < w1.heap.size := by omega
      have z2 : w.heap.size + 1 < w1.heap.size := by omega
      go_wp2_with fail
      refine (hhad _ _ _ hst).mono ?_
      rintro e w2 ⟨rfl, hb2⟩
      have hz2 := hb2.size
      have y1 : w2.cell? ⟨w.heap.size + 1, 0, none⟩ = some (.int .i64 0) := by rw [hb2.cell (p := ⟨w.heap.size + 1, 0, none⟩) (by simp; omega), hc1 _ _ (by simp)]; simp
      have y2 : w2.cell? ⟨w.heap.size + 1, 1, none⟩ = some (.slice none 0 0) := by rw [hb2.cell (p := ⟨w.heap.size + 1, 1, none⟩) (by simp; omega), hc1 _ _ (by simp)]; simp
      have y3 : w2.frozen? ⟨w.heap.size + 1, 0, none⟩ = false := by rw [hb2.frozen (p := ⟨w.heap.size + 1, 0, none⟩) (by simp; omega), hf1 _ _ (by simp)]; simp
      have y4 : w2.frozen? ⟨w.heap.size + 1, 1, none⟩ = false := by rw [hb2.frozen (p := ⟨w.heap.size + 1, 1, none⟩) (by simp; omega), hf1 _ _ (by simp)]; simp
      clear hc1 hf1
      have hst2 := hst.below hb2
      obtain ⟨B, A1, c1, rfl, hB, hBlt, b0, b1, ho1, _⟩ := hst2.read
      simp at hB
      go_wp2
      refine bodyPost_ret (v := .tuple #[.agg #[.int .i64 cap, .slice A1 ps.length c1], .int .i64 (-1), .int .i64 11]) (by simp [results, Try.results35, go_sem, y1, y2]) rfl ⟨_, rfl, ⟨_, rfl, ?_⟩, ?_⟩
      · exact Sl.of_own (ownsRow_setCell_below (ownsRow_setCell_below ho1 (by simp) _) (by simp) _)
      · exact (((hb0.trans (hb1.mono (by simp; omega))).trans (hb2.mono (by omega))).setCell (by simp) _).setCell (by simp) _
    · have h4 : 4 ≤ i := by omega
      clear hi
      generalize hnn : ps.length = n at *
      have HN := Lib.hid hnn
      clear hnn
      go_enter Try.func35, Try.ntmps35
      go_wp2_with fail
      refine hown.mono ?_
      rintro e w1 ⟨pv, rfl, hst, hb1⟩
      obtain ⟨hc1, hf1⟩ := bcell hb1
      have hz1 := hb1.size
      simp at hz1
      have z1 : w.heap.size < w1.heap.size := by omega
      have z2 : w.heap.size + 1 < w1.heap.size := by omega
      go_wp2_with fail
      refine (hhad _ _ _ hst).mono ?_
      rintro e w2 ⟨rfl, hb2⟩
      have hz2 := hb2.size
      have y1 : w2.cell? ⟨w.heap.size + 1, 0, none⟩ = some (.int .i64 0) := by rw [hb2.cell (p := ⟨w.heap.size + 1, 0, none⟩) (by simp; omega), hc1 _ _ (by simp)]; simp
      have y2 : w2.cell? ⟨w.heap.size + 1, 1, none⟩ = some (.slice none 0 0) := by rw [hb2.cell (p := ⟨w.heap.size + 1, 1, none⟩) (by simp; omega), hc1 _ _ (by simp)]; simp
      have y3 : w2.frozen? ⟨w.heap.size + 1, 0, none⟩ = false := by rw [hb2.frozen (p := ⟨w.heap.size + 1, 0, none⟩) (by simp; omega), hf1 _ _ (by simp)]; simp
      have y4 : w2.frozen? ⟨w.heap.size + 1, 1, none⟩ = false := by rw [hb2.frozen (p := ⟨w.heap.size + 1, 1, none⟩) (by simp; omega), hf1 _ _ (by simp)]; simp
      clear hc1 hf1
      have hst2 := hst.below hb2
      obtain ⟨B, A1, c1, rfl, hB, hBlt, b0, b1, ho1, _⟩ := hst2.read
      simp at hB
      go_wp2
      refine bodyPost_ret (v := .tuple #[.agg #[.int .i64 cap, .slice A1 ps.length c1], .int .i64 (-1), .int .i64 11]) (by simp [results, Try.results35, go_sem, y1, y2]) rfl ⟨_, rfl, ⟨_, rfl, ?_⟩, ?_⟩
      · exact Sl.of_own (ownsRow_setCell_below (ownsRow_setCell_below ho1 (by simp) _) (by simp) _)
      · exact (((hb0.trans (hb1.mono (by simp; omega))).trans (hb2.mono (by omega))).setCell (by simp) _).setCell (by simp) _
end Go.Proofs.Ytoogobenjhmjjaa
