/- The page layer once more: what is made lies in rows of its own. Alloc, Share, Free. -/
import Derived.Test.YtoogobenjhmjjaaPgWrite3
import Derived.Test.YtoogobenjhmjjaaPgFree
namespace Go.Proofs.Ytoogobenjhmjjaa
open Go Go.RowKit
set_option linter.unusedVariables false

/-- A store's value whose row is one's own. -/
def StQ (w : World) (base : Nat) (v : Value) (cap : Int) (ps : List Pg) : Prop := ∃ sv, v = .agg #[.int .i64 cap, sv] ∧ w.ownsRow base 54 5 sv ps.length (ps.flatMap encP)
theorem StQ.to {w : World} {base : Nat} {v : Value} {cap : Int} {ps : List Pg} (h : StQ w base v cap ps) : StV w v cap ps := by
  obtain ⟨sv, rfl, h⟩ := h
  exact ⟨sv, rfl, Sl.of_own h⟩
theorem StQ.keep {w w' : World} {base : Nat} {v : Value} {cap : Int} {ps : List Pg} (h : StQ w base v cap ps) (hb : Below w.heap.size w w') : StQ w' base v cap ps := by
  obtain ⟨sv, rfl, h⟩ := h
  exact ⟨sv, rfl, own_below h hb⟩

set_option maxHeartbeats 1000000 in
theorem Alloc_own (v : Value) (cap : Int) (ps : List Pg) (w : World) (hv : StV w v cap ps) (hn : ps.length ≤ 1000) :
    Calls Try.prog 34 #[v] w fun e w' => ∃ v', e = .returned (.tuple #[v', .int .i64 (allocX cap ps).1, .int .i64 (allocX cap ps).2.1]) ∧ StQ w' w.heap.size v' cap (allocX cap ps).2.2 ∧ Below w.heap.size w w' ∧ Fresh w.heap.size v' := by
  obtain ⟨sv, rfl, hsl⟩ := hv
  have hb0 : Below w.heap.size w ((w.alloc (.cells #[.int .i64 cap, sv] 25)).alloc (.cells #[.int .i64 0, .slice none 0 0] 25)) := ((Below.refl _ w).alloc (Nat.le_refl _) _).alloc (by simp) _
  have hown := own_any cap sv ps _ (hsl.below hb0) hn
  have hmay := fun W hb => may_any cap sv ps W (hsl.below hb)
  obtain ⟨A, c, rfl, _, _⟩ := hsl.form
  cases hm : mayP cap ps with
  | false =>
    rw [show allocX cap ps = (-1, 1, ps) from by simp [allocX, hm]]
    rw [hm] at hmay
    clear hm
    generalize hnn : ps.length = n at *
    have HN := Lib.hid hnn
    clear hnn
    go_enter Try.func34, Try.ntmps34
    go_wp2_with fail
    refine hown.mono ?_
    rintro e w1 ⟨pv, rfl, hst, hb1⟩
    obtain ⟨hc1, hf1⟩ := bcell hb1
    have hz1 := hb1.size
    simp at hz1
    obtain ⟨B, A1, c1, rfl, hB, hBlt, b0, b1, ho1, _⟩ := hst.read
    simp at hB
    have z1 : w.heap.size < w1.heap.size := by omega
    have z2 : w.heap.size + 1 < w1.heap.size := by omega
    go_wp2_with fail
    refine (hmay _ (hb0.trans (hb1.mono (by simp; omega)))).mono ?_
    rintro e w2 ⟨rfl, hb2⟩
    obtain ⟨hc2, hf2⟩ := bcell hb2
    have hz2 := hb2.size
    go_wp2
    refine bodyPost_ret (v := .tuple #[.agg #[.int .i64 cap, .slice A1 ps.length c1], .int .i64 (-1), .int .i64 1]) (by simp [results, Try.results34, go_sem, hc1, hc2, z2]) rfl ⟨_, rfl, ⟨_, rfl, ?_⟩, ?_, ?_⟩
    · exact ownsRow_mono (ownsRow_setCell_below (ownsRow_setCell_below (own_below ho1 hb2) (by simp) _) (by simp) _) (by first | (simp; done) | (simp; omega) | omega)
    · exact (((hb0.trans (hb1.mono (by simp; omega))).trans (hb2.mono (by omega))).setCell (by simp) _).setCell (by simp) _
    · exact fresh_of_own ho1 (by simp; omega)
  | true =>
    rw [show allocX cap ps = allocL cap ps ⟨0, 0, 0, 0, 0⟩ from by simp [allocX, hm]]
    rw [hm] at hmay
    clear hm
    have hal := fun (base : Nat) (pv : Value) (W : World) hs hb => alloc_any base pv cap ps ⟨0, 0, 0, 0, 0⟩ W hs hb hn
    generalize allocL cap ps ⟨0, 0, 0, 0, 0⟩ = r at hal ⊢
    obtain ⟨at_, er, qs⟩ := r
    simp only [encP] at hal
    clear hn
    generalize hnn : ps.length = n at *
    have HN := Lib.hid hnn
    clear hnn
    go_enter Try.func34, Try.ntmps34
    go_wp2_with fail
    refine hown.mono ?_
    rintro e w1 ⟨pv, rfl, hst, hb1⟩
    obtain ⟨hc1, hf1⟩ := bcell hb1
    have hz1 := hb1.size
    simp at hz1
    have z1 : w.heap.size < w1.heap.size := by omega
    have z2 : w.heap.size + 1 < w1.heap.size := by omega
    go_wp2_with fail
    refine (hmay _ (hb0.trans (hb1.mono (by simp; omega)))).mono ?_
    rintro e w2 ⟨rfl, hb2⟩
    obtain ⟨hc2, hf2⟩ := bcell hb2
    have hz2 := hb2.size
    go_wp2_with fail
    refine (hal _ _ _ (hst.below hb2) (by simp; omega)).mono ?_
    rintro e w3 ⟨rfl, hst3, hb3⟩
    have hz3 := hb3.size
    have y1 : w3.cell? ⟨w.heap.size + 1, 0, none⟩ = some (.int .i64 0) := by rw [hb3.cell (p := ⟨w.heap.size + 1, 0, none⟩) (by simp), hc2 _ _ z2, hc1 _ _ (by simp)]; simp
    have y2 : w3.cell? ⟨w.heap.size + 1, 1, none⟩ = some (.slice none 0 0) := by rw [hb3.cell (p := ⟨w.heap.size + 1, 1, none⟩) (by simp), hc2 _ _ z2, hc1 _ _ (by simp)]; simp
    have y3 : w3.frozen? ⟨w.heap.size + 1, 0, none⟩ = false := by rw [hb3.frozen (p := ⟨w.heap.size + 1, 0, none⟩) (by simp), hf2 _ _ z2, hf1 _ _ (by simp)]; simp
    have y4 : w3.frozen? ⟨w.heap.size + 1, 1, none⟩ = false := by rw [hb3.frozen (p := ⟨w.heap.size + 1, 1, none⟩) (by simp), hf2 _ _ z2, hf1 _ _ (by simp)]; simp
    clear hc1 hc2 hf1 hf2
    obtain ⟨B, A1, c1, rfl, hB, hBlt, b0, b1, ho1, _⟩ := hst3.read
    simp at hB
    go_wp2
    refine bodyPost_ret (v := .tuple #[.agg #[.int .i64 cap, .slice A1 qs.length c1], .int .i64 at_, .int .i64 er]) (by simp [results, Try.results34, go_sem, y1, y2]) rfl ⟨_, rfl, ⟨_, rfl, ?_⟩, ?_, ?_⟩
    · exact ownsRow_mono (ownsRow_setCell_below (ownsRow_setCell_below ho1 (by simp) _) (by simp) _) (by first | (simp; done) | (simp; omega) | omega)
    · exact ((((hb0.trans (hb1.mono (by simp; omega))).trans (hb2.mono (by omega))).trans (hb3.mono (by simp; omega))).setCell (by simp) _).setCell (by simp) _
    · exact fresh_of_own ho1 (by simp; omega)

set_option maxHeartbeats 1000000 in
theorem Share_own (v : Value) (cap : Int) (ps : List Pg) (p : Int) (w : World) (hv : StV w v cap ps) (hn : ps.length ≤ 1000) :
    Calls Try.prog 67 #[v, .int .i64 p] w fun e w' => ∃ v', e = .returned (.tuple #[v', .int .i64 (shareL cap ps p).1]) ∧ StQ w' w.heap.size v' cap (shareL cap ps p).2 ∧ Below w.heap.size w w' := by
  obtain ⟨sv, rfl, hsl⟩ := hv
  have hb0 : Below w.heap.size w ((w.alloc (.cells #[.int .i64 cap, sv] 25)).alloc (.cells #[.int .i64 0, .slice none 0 0] 25)) := ((Below.refl _ w).alloc (Nat.le_refl _) _).alloc (by simp) _
  have hown := own_any cap sv ps _ (hsl.below hb0) hn
  have hhad := fun base pv W hs => had_any base pv cap ps p W hs
  obtain ⟨A, c, rfl, _, _⟩ := hsl.form
  cases hh : (hadL cap ps p != 0) with
  | true =>
    rw [show shareL cap ps p = (hadL cap ps p, ps) from by
      have : ¬ hadL cap ps p = 0 := by simpa using hh
      simp [shareL, this]]
    generalize hadL cap ps p = er at hhad hh ⊢
    generalize hnn : ps.length = n at *
    have HN := Lib.hid hnn
    clear hnn
    go_enter Try.func67, Try.ntmps67
    go_wp2_with fail
    refine hown.mono ?_
    rintro e w1 ⟨pv, rfl, hst, hb1⟩
    obtain ⟨hc1, hf1⟩ := bcell hb1
    have hz1 := hb1.size
    simp at hz1
    have z1 : w.heap.size < w1.heap.size := by omega
    have z2 : w.heap.size + 1 < w1.heap.size := by omega
    go_wp2_with fail
    refine (hhad _ _ _ hst).mono ?_
    rintro e w2 ⟨rfl, hb2⟩
    have hz2 := hb2.size
    have y1 : w2.cell? ⟨w.heap.size + 1, 0, none⟩ = some (.int .i64 0) := by rw [hb2.cell (p := ⟨w.heap.size + 1, 0, none⟩) (by simp; omega), hc1 _ _ (by simp)]; simp
    have y2 : w2.cell? ⟨w.heap.size + 1, 1, none⟩ = some (.slice none 0 0) := by rw [hb2.cell (p := ⟨w.heap.size + 1, 1, none⟩) (by simp; omega), hc1 _ _ (by simp)]; simp
    have y3 : w2.frozen? ⟨w.heap.size + 1, 0, none⟩ = false := by rw [hb2.frozen (p := ⟨w.heap.size + 1, 0, none⟩) (by simp; omega), hf1 _ _ (by simp)]; simp
    have y4 : w2.frozen? ⟨w.heap.size + 1, 1, none⟩ = false := by rw [hb2.frozen (p := ⟨w.heap.size + 1, 1, none⟩) (by simp; omega), hf1 _ _ (by simp)]; simp
    clear hc1 hf1
    have hst2 := hst.below hb2
    obtain ⟨B, A1, c1, rfl, hB, hBlt, b0, b1, ho1, _⟩ := hst2.read
    simp at hB
    go_wp2
    refine bodyPost_ret (v := .tuple #[.agg #[.int .i64 cap, .slice A1 ps.length c1], .int .i64 er]) (by simp [results, Try.results67, go_sem, y1, y2]) rfl ⟨_, rfl, ⟨_, rfl, ?_⟩, ?_⟩
    · exact ownsRow_mono (ownsRow_setCell_below (ownsRow_setCell_below ho1 (by simp) _) (by simp) _) (by first | (simp; done) | (simp; omega) | omega)
    · exact (((hb0.trans (hb1.mono (by simp; omega))).trans (hb2.mono (by omega))).setCell (by simp) _).setCell (by simp) _
  | false =>
    have hh' : hadL cap ps p = 0 := by simpa using hh
    obtain ⟨hmay, k, rfl, hk, _, hr1, hr2⟩ := had_ok hh'
    rw [hh'] at hhad
    cases h3 : ((pgAt ps k).r == 1000) with
    | true =>
      rw [show shareL cap ps k = (8, ps) from by simp [shareL, hh', beq_iff_eq.1 h3]]
      have hat : pgAt ps k = ps[k] := by simp [pgAt, hk]
      have hel := fun (W : World) (base : Nat) (v : Value) h => own_elem (w := W) (base := base) (e := 54) (v := v) encP encP_len h k hk
      rw [← hat] at hel
      generalize pgAt ps k = x at hel h3 hr1 hr2
      clear hat hh hh' hmay
      have hlt : (k : Int) < (ps.length : Int) := by omega
      have hk' := Lib.hid hk
      clear hk
      generalize hnn : ps.length = n at *
      have HN := Lib.hid hnn
      clear hnn
      go_enter Try.func67, Try.ntmps67
      go_wp2_with fail
      refine hown.mono ?_
      rintro e w1 ⟨pv, rfl, hst, hb1⟩
      obtain ⟨hc1, hf1⟩ := bcell hb1
      have hz1 := hb1.size
      simp at hz1
      have z1 : w.heap.size < w1.heap.size := by omega
      have z2 : w.heap.size + 1 < w1.heap.size := by omega
      go_wp2_with fail
      refine (hhad _ _ _ hst).mono ?_
      rintro e w2 ⟨rfl, hb2⟩
      have hz2 := hb2.size
      have y1 : w2.cell? ⟨w.heap.size + 1, 0, none⟩ = some (.int .i64 0) := by rw [hb2.cell (p := ⟨w.heap.size + 1, 0, none⟩) (by simp; omega), hc1 _ _ (by simp)]; simp
      have y2 : w2.cell? ⟨w.heap.size + 1, 1, none⟩ = some (.slice none 0 0) := by rw [hb2.cell (p := ⟨w.heap.size + 1, 1, none⟩) (by simp; omega), hc1 _ _ (by simp)]; simp
      have y3 : w2.frozen? ⟨w.heap.size + 1, 0, none⟩ = false := by rw [hb2.frozen (p := ⟨w.heap.size + 1, 0, none⟩) (by simp; omega), hf1 _ _ (by simp)]; simp
      have y4 : w2.frozen? ⟨w.heap.size + 1, 1, none⟩ = false := by rw [hb2.frozen (p := ⟨w.heap.size + 1, 1, none⟩) (by simp; omega), hf1 _ _ (by simp)]; simp
      clear hc1 hf1
      have hst2 := hst.below hb2
      obtain ⟨B, A1, c1, rfl, hB, hBlt, b0, b1, ho1, _⟩ := hst2.read
      simp at hB
      rw [HN.out] at ho1 b1
      obtain ⟨g, c', he, hg1, hg2, _, _, hel, hfr⟩ := hel _ _ _ ho1
      injection he with he1 _ he2
      subst he1 he2
      have q0 := hel 0 _ rfl
      simp only [Nat.add_zero] at q0
      clear hel
      go_wp2
      refine bodyPost_ret (v := .tuple #[.agg #[.int .i64 cap, .slice (some ⟨g, 0, none⟩) n c1], .int .i64 8]) (by simp [results, Try.results67, go_sem, y1, y2]) rfl ⟨_, rfl, ⟨_, rfl, ?_⟩, ?_⟩
      · rw [HN.out]
        exact ownsRow_mono (ownsRow_setCell_below (ownsRow_setCell_below ho1 (by simp) _) (by simp) _) (by first | (simp; done) | (simp; omega) | omega)
      · exact (((hb0.trans (hb1.mono (by simp; omega))).trans (hb2.mono (by omega))).setCell (by simp) _).setCell (by simp) _
    | false =>
      rw [show shareL cap ps k = (0, ps.set k { pgAt ps k with r := (pgAt ps k).r + 1 }) from by
        have : ¬ (pgAt ps k).r = 1000 := by simpa using h3
        simp [shareL, hh', this]]
      have hat : pgAt ps k = ps[k] := by simp [pgAt, hk]
      have hel := fun (W : World) (base : Nat) (v : Value) h => own_elem (w := W) (base := base) (e := 54) (v := v) encP encP_len h k hk
      have hset := fun (W : World) (base g c' : Nat) (h : W.ownsRow base 54 5 (.slice (some ⟨g, 0, none⟩) ps.length c') ps.length (ps.flatMap encP)) => own_set h (k * 5 + 0) (.int .i64 (ps[k].r + 1))
      rw [flat_set1 encP encP_len ps k hk 0 (by omega) _ { ps[k] with r := ps[k].r + 1 } rfl] at hset
      rw [← hat] at hel hset
      generalize pgAt ps k = x at hel h3 hr1 hr2 hset ⊢
      clear hat hh hh' hmay
      have hlt : (k : Int) < (ps.length : Int) := by omega
      have hk' := Lib.hid hk
      clear hk
      generalize hnn : ps.length = n at *
      have HN := Lib.hid hnn
      clear hnn
      go_enter Try.func67, Try.ntmps67
      go_wp2_with fail
      refine hown.mono ?_
      rintro e w1 ⟨pv, rfl, hst, hb1⟩
      obtain ⟨hc1, hf1⟩ := bcell hb1
      have hz1 := hb1.size
      simp at hz1
      have z1 : w.heap.size < w1.heap.size := by omega
      have z2 : w.heap.size + 1 < w1.heap.size := by omega
      go_wp2_with fail
      refine (hhad _ _ _ hst).mono ?_
      rintro e w2 ⟨rfl, hb2⟩
      have hz2 := hb2.size
      have y1 : w2.cell? ⟨w.heap.size + 1, 0, none⟩ = some (.int .i64 0) := by rw [hb2.cell (p := ⟨w.heap.size + 1, 0, none⟩) (by simp; omega), hc1 _ _ (by simp)]; simp
      have y2 : w2.cell? ⟨w.heap.size + 1, 1, none⟩ = some (.slice none 0 0) := by rw [hb2.cell (p := ⟨w.heap.size + 1, 1, none⟩) (by simp; omega), hc1 _ _ (by simp)]; simp
      have y3 : w2.frozen? ⟨w.heap.size + 1, 0, none⟩ = false := by rw [hb2.frozen (p := ⟨w.heap.size + 1, 0, none⟩) (by simp; omega), hf1 _ _ (by simp)]; simp
      have y4 : w2.frozen? ⟨w.heap.size + 1, 1, none⟩ = false := by rw [hb2.frozen (p := ⟨w.heap.size + 1, 1, none⟩) (by simp; omega), hf1 _ _ (by simp)]; simp
      clear hc1 hf1
      have hst2 := hst.below hb2
      obtain ⟨B, A1, c1, rfl, hB, hBlt, b0, b1, ho1, hnB⟩ := hst2.read
      simp at hB
      rw [HN.out] at ho1 b1
      obtain ⟨g, c', he, hg1, hg2, _, _, hel, hfr⟩ := hel _ _ _ ho1
      injection he with he1 _ he2
      subst he1 he2
      have q0 := hel 0 _ rfl
      simp only [Nat.add_zero] at q0
      clear hel
      rw [HN.out] at hnB
      have hne : ¬ g = B := by simpa [Value.ownBlock] using hnB
      have hne' : ¬ B = g := fun e => hne e.symm
      simp at hg1
      have hgR' : ¬ w.heap.size + 1 = g := by omega
      have hs3 := hset _ _ _ _ ho1
      have HS3 := Lib.hid hs3
      clear hs3 hset
      go_wp2
      refine bodyPost_ret (v := .tuple #[.agg #[.int .i64 cap, .slice (some ⟨g, 0, none⟩) n c1], .int .i64 0]) (by simp [results, Try.results67, go_sem, y1, y2]) rfl ⟨_, rfl, ⟨_, rfl, ?_⟩, ?_⟩
      · rw [show (ps.set k ({ x with r := x.r + 1 } : Pg)).length = n from by simp [HN.out]]
        have h9 := HS3.out
        simp only [Nat.add_zero] at h9
        exact ownsRow_mono (ownsRow_setCell_below (ownsRow_setCell_below h9 (a := ⟨w.heap.size + 1, 0, none⟩) (by simp) _) (a := ⟨w.heap.size + 1, 1, none⟩) (by simp) _) (by first | (simp; done) | (simp; omega) | omega)
      · exact ((((hb0.trans (hb1.mono (by simp; omega))).trans (hb2.mono (by omega))).setCell (p := ⟨g, k * 5, none⟩) (by simp; omega) _).setCell (by simp) _).setCell (by simp) _

set_option maxHeartbeats 1000000 in
theorem Free_own (v : Value) (cap : Int) (ps : List Pg) (p : Int) (w : World) (hv : StV w v cap ps) (hn : ps.length ≤ 1000) :
    Calls Try.prog 68 #[v, .int .i64 p] w fun e w' => ∃ v', e = .returned (.tuple #[v', .int .i64 (freeX cap ps p).1]) ∧ StQ w' w.heap.size v' cap (freeX cap ps p).2 ∧ Below w.heap.size w w' := by
  obtain ⟨sv, rfl, hsl⟩ := hv
  have hb0 : Below w.heap.size w ((w.alloc (.cells #[.int .i64 cap, sv] 25)).alloc (.cells #[.int .i64 0, .slice none 0 0] 25)) := ((Below.refl _ w).alloc (Nat.le_refl _) _).alloc (by simp) _
  have hown := own_any cap sv ps _ (hsl.below hb0) hn
  have hhad := fun base pv W hs => had_any base pv cap ps p W hs
  obtain ⟨A, c, rfl, _, _⟩ := hsl.form
  cases hh : (hadL cap ps p != 0) with
  | true =>
    rw [show freeX cap ps p = (hadL cap ps p, ps) from by
      have : ¬ hadL cap ps p = 0 := by simpa using hh
      simp [freeX, this]]
    generalize hadL cap ps p = er at hhad hh ⊢
    generalize hnn : ps.length = n at *
    have HN := Lib.hid hnn
    clear hnn
    go_enter Try.func68, Try.ntmps68
    go_wp2_with fail
    refine hown.mono ?_
    rintro e w1 ⟨pv, rfl, hst, hb1⟩
    obtain ⟨hc1, hf1⟩ := bcell hb1
    have hz1 := hb1.size
    simp at hz1
    have z1 : w.heap.size < w1.heap.size := by omega
    have z2 : w.heap.size + 1 < w1.heap.size := by omega
    go_wp2_with fail
    refine (hhad _ _ _ hst).mono ?_
    rintro e w2 ⟨rfl, hb2⟩
    have hz2 := hb2.size
    have y1 : w2.cell? ⟨w.heap.size + 1, 0, none⟩ = some (.int .i64 0) := by rw [hb2.cell (p := ⟨w.heap.size + 1, 0, none⟩) (by simp; omega), hc1 _ _ (by simp)]; simp
    have y2 : w2.cell? ⟨w.heap.size + 1, 1, none⟩ = some (.slice none 0 0) := by rw [hb2.cell (p := ⟨w.heap.size + 1, 1, none⟩) (by simp; omega), hc1 _ _ (by simp)]; simp
    have y3 : w2.frozen? ⟨w.heap.size + 1, 0, none⟩ = false := by rw [hb2.frozen (p := ⟨w.heap.size + 1, 0, none⟩) (by simp; omega), hf1 _ _ (by simp)]; simp
    have y4 : w2.frozen? ⟨w.heap.size + 1, 1, none⟩ = false := by rw [hb2.frozen (p := ⟨w.heap.size + 1, 1, none⟩) (by simp; omega), hf1 _ _ (by simp)]; simp
    clear hc1 hf1
    have hst2 := hst.below hb2
    obtain ⟨B, A1, c1, rfl, hB, hBlt, b0, b1, ho1, _⟩ := hst2.read
    simp at hB
    go_wp2
    refine bodyPost_ret (v := .tuple #[.agg #[.int .i64 cap, .slice A1 ps.length c1], .int .i64 er]) (by simp [results, Try.results68, go_sem, y1, y2]) rfl ⟨_, rfl, ⟨_, rfl, ?_⟩, ?_⟩
    · exact ownsRow_mono (ownsRow_setCell_below (ownsRow_setCell_below ho1 (by simp) _) (by simp) _) (by first | (simp; done) | (simp; omega) | omega)
    · exact (((hb0.trans (hb1.mono (by simp; omega))).trans (hb2.mono (by omega))).setCell (by simp) _).setCell (by simp) _
  | false =>
    have hh' : hadL cap ps p = 0 := by simpa using hh
    obtain ⟨hmay, k, rfl, hk, _, hr1, hr2⟩ := had_ok hh'
    rw [hh'] at hhad
    rw [show freeX cap ps k = (0, freeL ps k) from by simp [freeX, hh']]
    have hfr := fun (base : Nat) (pv : Value) (W : World) hs => free_any base pv cap ps k W hs hk (by omega) hr2
    clear hh hh' hmay hr1 hr2
    generalize freeL ps k = qs at hfr ⊢
    have hk' := Lib.hid hk
    clear hk
    generalize hnn : ps.length = n at *
    have HN := Lib.hid hnn
    clear hnn
    go_enter Try.func68, Try.ntmps68
    go_wp2_with fail
    refine hown.mono ?_
    rintro e w1 ⟨pv, rfl, hst, hb1⟩
    obtain ⟨hc1, hf1⟩ := bcell hb1
    have hz1 := hb1.size
    simp at hz1
    have z1 : w.heap.size < w1.heap.size := by omega
    have z2 : w.heap.size + 1 < w1.heap.size := by omega
    go_wp2_with fail
    refine (hhad _ _ _ hst).mono ?_
    rintro e w2 ⟨rfl, hb2⟩
    have hz2 := hb2.size
    have y1 : w2.cell? ⟨w.heap.size + 1, 0, none⟩ = some (.int .i64 0) := by rw [hb2.cell (p := ⟨w.heap.size + 1, 0, none⟩) (by simp; omega), hc1 _ _ (by simp)]; simp
    have y2 : w2.cell? ⟨w.heap.size + 1, 1, none⟩ = some (.slice none 0 0) := by rw [hb2.cell (p := ⟨w.heap.size + 1, 1, none⟩) (by simp; omega), hc1 _ _ (by simp)]; simp
    have y3 : w2.frozen? ⟨w.heap.size + 1, 0, none⟩ = false := by rw [hb2.frozen (p := ⟨w.heap.size + 1, 0, none⟩) (by simp; omega), hf1 _ _ (by simp)]; simp
    have y4 : w2.frozen? ⟨w.heap.size + 1, 1, none⟩ = false := by rw [hb2.frozen (p := ⟨w.heap.size + 1, 1, none⟩) (by simp; omega), hf1 _ _ (by simp)]; simp
    clear hc1 hf1
    have hst2 := hst.below hb2
    go_wp2_with fail
    refine (hfr _ _ _ hst2).mono ?_
    rintro e w3 ⟨rfl, hst3, hb3⟩
    have hz3 := hb3.size
    have x1 : w3.cell? ⟨w.heap.size + 1, 0, none⟩ = some (.int .i64 0) := (hb3.cell (p := ⟨w.heap.size + 1, 0, none⟩) (by simp)).trans y1
    have x2 : w3.cell? ⟨w.heap.size + 1, 1, none⟩ = some (.slice none 0 0) := (hb3.cell (p := ⟨w.heap.size + 1, 1, none⟩) (by simp)).trans y2
    have x3 : w3.frozen? ⟨w.heap.size + 1, 0, none⟩ = false := (hb3.frozen (p := ⟨w.heap.size + 1, 0, none⟩) (by simp)).trans y3
    have x4 : w3.frozen? ⟨w.heap.size + 1, 1, none⟩ = false := (hb3.frozen (p := ⟨w.heap.size + 1, 1, none⟩) (by simp)).trans y4
    obtain ⟨B, A1, c1, rfl, hB, hBlt, b0, b1, ho1, _⟩ := hst3.read
    simp at hB
    clear y1 y2 y3 y4
    go_wp2
    refine bodyPost_ret (v := .tuple #[.agg #[.int .i64 cap, .slice A1 qs.length c1], .int .i64 0]) (by simp [results, Try.results68, go_sem, x1, x2]) rfl ⟨_, rfl, ⟨_, rfl, ?_⟩, ?_⟩
    · exact ownsRow_mono (ownsRow_setCell_below (ownsRow_setCell_below ho1 (by simp) _) (by simp) _) (by first | (simp; done) | (simp; omega) | omega)
    · exact ((((hb0.trans (hb1.mono (by simp; omega))).trans (hb2.mono (by omega))).trans (hb3.mono (by simp; omega))).setCell (by simp) _).setCell (by simp) _
end Go.Proofs.Ytoogobenjhmjjaa
