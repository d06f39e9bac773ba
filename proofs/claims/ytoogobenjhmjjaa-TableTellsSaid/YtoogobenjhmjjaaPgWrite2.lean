/- page.Write, where the page is had once. -/
import Derived.Test.YtoogobenjhmjjaaPgWrite
namespace Go.Proofs.Ytoogobenjhmjjaa
open Go Go.RowKit

set_option maxHeartbeats 2000000 in
theorem Write_in (v : Value) (cap : Int) (ps : List Pg) (p i u : Int) (w : World) (hv : StV w v cap ps) (hn : ps.length ≤ 1000) (hh' : hadL cap ps p = 0) (hi0 : 0 ≤ i) (hi4 : i < 4) (h1 : (pgAt ps p).r = 1) :
    Calls Try.prog 35 #[v, .int .i64 p, .int .i64 i, .int .i64 u] w fun e w' => ∃ v', e = .returned (.tuple #[v', .int .i64 (writeL cap ps p i u).1, .int .i64 (writeL cap ps p i u).2.1]) ∧ StV w' v' cap (writeL cap ps p i u).2.2 ∧ Below w.heap.size w w' := by
  obtain ⟨sv, rfl, hsl⟩ := hv
  have hb0 : Below w.heap.size w ((w.alloc (.cells #[.int .i64 cap, sv] 25)).alloc (.cells #[.int .i64 0, .slice none 0 0] 25)) := ((Below.refl _ w).alloc (Nat.le_refl _) _).alloc (by simp) _
  have hown := own_any cap sv ps _ (hsl.below hb0) hn
  have hhad := fun base pv W hs => had_any base pv cap ps p W hs
  obtain ⟨A, c, rfl, _, _⟩ := hsl.form
  rw [show writeL cap ps p i u = (p, 0, ps.set p.toNat (wset (pgAt ps p) i u)) from by simp [writeL, hh', hi0, hi4, h1]]
  obtain ⟨_, k, rfl, hk, _, hr1, hr2⟩ := had_ok hh'
  rw [hh'] at hhad
  clear hh' hr1 hr2
  rw [Int.toNat_natCast]
  have hat : pgAt ps k = ps[k] := by simp [pgAt, hk]
  have hel := fun (W : World) (base : Nat) (v : Value) h => own_elem (w := W) (base := base) (e := 54) (v := v) encP encP_len h k hk
  have hset := fun (W : World) (base g c' : Nat) (h : W.ownsRow base 54 5 (.slice (some ⟨g, 0, none⟩) ps.length c') ps.length (ps.flatMap encP)) (y : Pg) => own_page h k hk y
  rw [← hat] at hel
  generalize pgAt ps k = x at hel h1 ⊢
  obtain ⟨xr, xa, xb, xc, xd⟩ := x
  simp only at h1
  subst h1
  clear hat
  have hlt : (k : Int) < (ps.length : Int) := by omega
  have hge : (0 : Int) ≤ (k : Int) := by omega
  have hk' := Lib.hid hk
  clear hk
  have h4 : i = 0 ∨ i = 1 ∨ i = 2 ∨ i = 3 := by omega
  clear hi0 hi4
  rcases h4 with rfl | rfl | rfl | rfl
  · simp only [wset, if_true]
    generalize hnn : ps.length = n at *
    have HN := Lib.hid hnn
    clear hnn
    go_enter Try.func35, Try.ntmps35
    go_wp2_with fail
    refine hown.mono ?_
    rintro e w1 ⟨pv, rfl, hst, hb1⟩
    obtain ⟨hc1, hf1⟩ := bcell hb1
    have hz1 := hb1.size
    simp at hz1
    have z1 : w.heap.size < w1.heap.size := by omega
    have z2 : w.heap.size + 1 < w1.heap.size := by omega
    go_wp2_with fail
    refine (hhad _ _ _ hst).mono ?_
    rintro e w2 ⟨rfl, hb2⟩
    have hz2 := hb2.size
    have y1 : w2.cell? ⟨w.heap.size + 1, 0, none⟩ = some (.int .i64 0) := by rw [hb2.cell (p := ⟨w.heap.size + 1, 0, none⟩) (by simp; omega), hc1 _ _ (by simp)]; simp
    have y2 : w2.cell? ⟨w.heap.size + 1, 1, none⟩ = some (.slice none 0 0) := by rw [hb2.cell (p := ⟨w.heap.size + 1, 1, none⟩) (by simp; omega), hc1 _ _ (by simp)]; simp
    have y3 : w2.frozen? ⟨w.heap.size + 1, 0, none⟩ = false := by rw [hb2.frozen (p := ⟨w.heap.size + 1, 0, none⟩) (by simp; omega), hf1 _ _ (by simp)]; simp
    have y4 : w2.frozen? ⟨w.heap.size + 1, 1, none⟩ = false := by rw [hb2.frozen (p := ⟨w.heap.size + 1, 1, none⟩) (by simp; omega), hf1 _ _ (by simp)]; simp
    clear hc1 hf1
    have hst2 := hst.below hb2
    obtain ⟨B, A1, c1, rfl, hB, hBlt, b0, b1, ho1, hnB⟩ := hst2.read
    simp at hB
    rw [HN.out] at ho1 b1 hnB
    obtain ⟨g, c', he, hg1, hg2, _, _, hel, hfr⟩ := hel _ _ _ ho1
    injection he with he1 _ he2
    subst he1 he2
    have q0 := hel 0 _ rfl
    have q1 := hel 1 _ rfl
    have q2 := hel 2 _ rfl
    have q3 := hel 3 _ rfl
    have q4 := hel 4 _ rfl
    simp only [Nat.add_zero] at q0
    clear hel
    have hne : ¬ g = B := by simpa [Value.ownBlock] using hnB
    have hne' : ¬ B = g := fun e => hne e.symm
    simp at hg1
    have hgR' : ¬ w.heap.size + 1 = g := by omega
    have hgX : ¬ w2.heap.size = g := by omega
    have hgX' : ¬ g = w2.heap.size := by omega
    have hBX : ¬ w2.heap.size = B := by omega
    have hs3 := hset _ _ _ _ (ho1.alloc (.cells #[.int .i64 1, .int .i64 u, .int .i64 xb, .int .i64 xc, .int .i64 xd] 54)) ⟨1, u, xb, xc, xd⟩
    have HS3 := Lib.hid hs3
    clear hs3 hset
    go_wp2_with fail
    obtain ⟨w3, hw3⟩ : ∃ w3, w2.alloc (.cells #[.int .i64 1, .int .i64 u, .int .i64 xb, .int .i64 xc, .int .i64 xd] 54) = w3 := ⟨_, rfl⟩
    have hb3 : Below w2.heap.size w2 w3 := hw3 ▸ (Below.refl _ _).alloc (Nat.le_refl _) _
    have X0 : w3.cell? ⟨w2.heap.size, 0, none⟩ = some (.int .i64 1) := by rw [← hw3]; simp
    have X1 : w3.cell? ⟨w2.heap.size, 1, none⟩ = some (.int .i64 u) := by rw [← hw3]; simp
    have X2 : w3.cell? ⟨w2.heap.size, 2, none⟩ = some (.int .i64 xb) := by rw [← hw3]; simp
    have X3 : w3.cell? ⟨w2.heap.size, 3, none⟩ = some (.int .i64 xc) := by rw [← hw3]; simp
    have X4 : w3.cell? ⟨w2.heap.size, 4, none⟩ = some (.int .i64 xd) := by rw [← hw3]; simp
    have hz3 := hb3.size
    have hB3 : B < w3.heap.size := by omega
    have Y1 : w3.cell? ⟨w.heap.size + 1, 0, none⟩ = some (.int .i64 0) := (hb3.cell (p := ⟨w.heap.size + 1, 0, none⟩) (by simp; omega)).trans y1
    have Y2 : w3.cell? ⟨w.heap.size + 1, 1, none⟩ = some (.slice none 0 0) := (hb3.cell (p := ⟨w.heap.size + 1, 1, none⟩) (by simp; omega)).trans y2
    have Y3 : w3.frozen? ⟨w.heap.size + 1, 0, none⟩ = false := (hb3.frozen (p := ⟨w.heap.size + 1, 0, none⟩) (by simp; omega)).trans y3
    have Y4 : w3.frozen? ⟨w.heap.size + 1, 1, none⟩ = false := (hb3.frozen (p := ⟨w.heap.size + 1, 1, none⟩) (by simp; omega)).trans y4
    have D0 : w3.cell? ⟨B, 0, none⟩ = some (.int .i64 cap) := (hb3.cell (p := ⟨B, 0, none⟩) hBlt).trans b0
    have D1 : w3.cell? ⟨B, 1, none⟩ = some (.slice (some ⟨g, 0, none⟩) n c1) := (hb3.cell (p := ⟨B, 1, none⟩) hBlt).trans b1
    have Q0 := (hb3.cell (p := ⟨g, k * 5, none⟩) hg2).trans q0
    have Q1 := (hb3.cell (p := ⟨g, k * 5 + 1, none⟩) hg2).trans q1
    have Q2 := (hb3.cell (p := ⟨g, k * 5 + 2, none⟩) hg2).trans q2
    have Q3 := (hb3.cell (p := ⟨g, k * 5 + 3, none⟩) hg2).trans q3
    have Q4 := (hb3.cell (p := ⟨g, k * 5 + 4, none⟩) hg2).trans q4
    have QF : ∀ o, w3.frozen? ⟨g, o, none⟩ = false := fun o => (hb3.frozen (p := ⟨g, o, none⟩) hg2).trans (hfr o)
    rw [hw3] at HS3 ⊢
    clear y1 y2 y3 y4 b0 b1 q0 q1 q2 q3 q4 hfr hw3
    go_region_held3 (fun w' => w'.cell? ⟨B, 1, none⟩ = some (.slice (some ⟨g, 0, none⟩) n c1) ∧ w'.cell? ⟨w2.heap.size, 0, none⟩ = some (.int .i64 1) ∧ w'.cell? ⟨w2.heap.size, 1, none⟩ = some (.int .i64 u) ∧ w'.cell? ⟨w2.heap.size, 2, none⟩ = some (.int .i64 xb) ∧ w'.cell? ⟨w2.heap.size, 3, none⟩ = some (.int .i64 xc) ∧ w'.cell? ⟨w2.heap.size, 4, none⟩ = some (.int .i64 xd)) (go_keep) (fail)
    go_wp2
    refine bodyPost_ret (v := .tuple #[.agg #[.int .i64 cap, .slice (some ⟨g, 0, none⟩) n c1], .int .i64 k, .int .i64 0]) (by simp [results, Try.results35, go_sem, Y1, Y2]) rfl ⟨_, rfl, ⟨_, rfl, ?_⟩, ?_⟩
    · rw [List.length_set, HN.out]
      have h9 := HS3.out
      exact Sl.of_own (own_drew (ownsRow_setCell_below (ownsRow_setCell_below h9 (a := ⟨w.heap.size + 1, 0, none⟩) (by simp) _) (a := ⟨w.heap.size + 1, 1, none⟩) (by simp) _))
    · exact ((((((((((hb0.trans (hb1.mono (by simp; omega))).trans (hb2.mono (by omega))).trans (hb3.mono (by omega))).setCell (p := ⟨g, _, none⟩) (by simp; omega) _).setCell (p := ⟨g, _, none⟩) (by simp; omega) _).setCell (p := ⟨g, _, none⟩) (by simp; omega) _).setCell (p := ⟨g, _, none⟩) (by simp; omega) _).setCell (p := ⟨g, _, none⟩) (by simp; omega) _).setCell (by simp) _).setCell (by simp) _).drew
  · simp only [wset, if_true]
    simp
    generalize hnn : ps.length = n at *
    have HN := Lib.hid hnn
    clear hnn
    go_enter Try.func35, Try.ntmps35
    go_wp2_with fail
    refine hown.mono ?_
    rintro e w1 ⟨pv, rfl, hst, hb1⟩
    obtain ⟨hc1, hf1⟩ := bcell hb1
    have hz1 := hb1.size
    simp at hz1
    have z1 : w.heap.size < w1.heap.size := by omega
    have z2 : w.heap.size + 1 < w1.heap.size := by omega
    go_wp2_with fail
    refine (hhad _ _ _ hst).mono ?_
    rintro e w2 ⟨rfl, hb2⟩
    have hz2 := hb2.size
    have y1 : w2.cell? ⟨w.heap.size + 1, 0, none⟩ = some (.int .i64 0) := by rw [hb2.cell (p := ⟨w.heap.size + 1, 0, none⟩) (by simp; omega), hc1 _ _ (by simp)]; simp
    have y2 : w2.cell? ⟨w.heap.size + 1, 1, none⟩ = some (.slice none 0 0) := by rw [hb2.cell (p := ⟨w.heap.size + 1, 1, none⟩) (by simp; omega), hc1 _ _ (by simp)]; simp
    have y3 : w2.frozen? ⟨w.heap.size + 1, 0, none⟩ = false := by rw [hb2.frozen (p := ⟨w.heap.size + 1, 0, none⟩) (by simp; omega), hf1 _ _ (by simp)]; simp
    have y4 : w2.frozen? ⟨w.heap.size + 1, 1, none⟩ = false := by rw [hb2.frozen (p := ⟨w.heap.size + 1, 1, none⟩) (by simp; omega), hf1 _ _ (by simp)]; simp
    clear hc1 hf1
    have hst2 := hst.below hb2
    obtain ⟨B, A1, c1, rfl, hB, hBlt, b0, b1, ho1, hnB⟩ := hst2.read
    simp at hB
    rw [HN.out] at ho1 b1 hnB
    obtain ⟨g, c', he, hg1, hg2, _, _, hel, hfr⟩ := hel _ _ _ ho1
    injection he with he1 _ he2
    subst he1 he2
    have q0 := hel 0 _ rfl
    have q1 := hel 1 _ rfl
    have q2 := hel 2 _ rfl
    have q3 := hel 3 _ rfl
    have q4 := hel 4 _ rfl
    simp only [Nat.add_zero] at q0
    clear hel
    have hne : ¬ g = B := by simpa [Value.ownBlock] using hnB
    have hne' : ¬ B = g := fun e => hne e.symm
    simp at hg1
    have hgR' : ¬ w.heap.size + 1 = g := by omega
    have hgX : ¬ w2.heap.size = g := by omega
    have hgX' : ¬ g = w2.heap.size := by omega
    have hBX : ¬ w2.heap.size = B := by omega
    have hs3 := hset _ _ _ _ (ho1.alloc (.cells #[.int .i64 1, .int .i64 xa, .int .i64 u, .int .i64 xc, .int .i64 xd] 54)) ⟨1, xa, u, xc, xd⟩
    have HS3 := Lib.hid hs3
    clear hs3 hset
    go_wp2_with fail
    obtain ⟨w3, hw3⟩ : ∃ w3, w2.alloc (.cells #[.int .i64 1, .int .i64 xa, .int .i64 u, .int .i64 xc, .int .i64 xd] 54) = w3 := ⟨_, rfl⟩
    have hb3 : Below w2.heap.size w2 w3 := hw3 ▸ (Below.refl _ _).alloc (Nat.le_refl _) _
    have X0 : w3.cell? ⟨w2.heap.size, 0, none⟩ = some (.int .i64 1) := by rw [← hw3]; simp
    have X1 : w3.cell? ⟨w2.heap.size, 1, none⟩ = some (.int .i64 xa) := by rw [← hw3]; simp
    have X2 : w3.cell? ⟨w2.heap.size, 2, none⟩ = some (.int .i64 u) := by rw [← hw3]; simp
    have X3 : w3.cell? ⟨w2.heap.size, 3, none⟩ = some (.int .i64 xc) := by rw [← hw3]; simp
    have X4 : w3.cell? ⟨w2.heap.size, 4, none⟩ = some (.int .i64 xd) := by rw [← hw3]; simp
    have hz3 := hb3.size
    have hB3 : B < w3.heap.size := by omega
    have Y1 : w3.cell? ⟨w.heap.size + 1, 0, none⟩ = some (.int .i64 0) := (hb3.cell (p := ⟨w.heap.size + 1, 0, none⟩) (by simp; omega)).trans y1
    have Y2 : w3.cell? ⟨w.heap.size + 1, 1, none⟩ = some (.slice none 0 0) := (hb3.cell (p := ⟨w.heap.size + 1, 1, none⟩) (by simp; omega)).trans y2
    have Y3 : w3.frozen? ⟨w.heap.size + 1, 0, none⟩ = false := (hb3.frozen (p := ⟨w.heap.size + 1, 0, none⟩) (by simp; omega)).trans y3
    have Y4 : w3.frozen? ⟨w.heap.size + 1, 1, none⟩ = false := (hb3.frozen (p := ⟨w.heap.size + 1, 1, none⟩) (by simp; omega)).trans y4
    have D0 : w3.cell? ⟨B, 0, none⟩ = some (.int .i64 cap) := (hb3.cell (p := ⟨B, 0, none⟩) hBlt).trans b0
    have D1 : w3.cell? ⟨B, 1, none⟩ = some (.slice (some ⟨g, 0, none⟩) n c1) := (hb3.cell (p := ⟨B, 1, none⟩) hBlt).trans b1
    have Q0 := (hb3.cell (p := ⟨g, k * 5, none⟩) hg2).trans q0
    have Q1 := (hb3.cell (p := ⟨g, k * 5 + 1, none⟩) hg2).trans q1
    have Q2 := (hb3.cell (p := ⟨g, k * 5 + 2, none⟩) hg2).trans q2
    have Q3 := (hb3.cell (p := ⟨g, k * 5 + 3, none⟩) hg2).trans q3
    have Q4 := (hb3.cell (p := ⟨g, k * 5 + 4, none⟩) hg2).trans q4
    have QF : ∀ o, w3.frozen? ⟨g, o, none⟩ = false := fun o => (hb3.frozen (p := ⟨g, o, none⟩) hg2).trans (hfr o)
    rw [hw3] at HS3 ⊢
    clear y1 y2 y3 y4 b0 b1 q0 q1 q2 q3 q4 hfr hw3
    go_region_held3 (fun w' => w'.cell? ⟨B, 1, none⟩ = some (.slice (some ⟨g, 0, none⟩) n c1) ∧ w'.cell? ⟨w2.heap.size, 0, none⟩ = some (.int .i64 1) ∧ w'.cell? ⟨w2.heap.size, 1, none⟩ = some (.int .i64 xa) ∧ w'.cell? ⟨w2.heap.size, 2, none⟩ = some (.int .i64 u) ∧ w'.cell? ⟨w2.heap.size, 3, none⟩ = some (.int .i64 xc) ∧ w'.cell? ⟨w2.heap.size, 4, none⟩ = some (.int .i64 xd)) (go_keep) (fail)
    go_wp2
    refine bodyPost_ret (v := .tuple #[.agg #[.int .i64 cap, .slice (some ⟨g, 0, none⟩) n c1], .int .i64 k, .int .i64 0]) (by simp [results, Try.results35, go_sem, Y1, Y2]) rfl ⟨_, rfl, ⟨_, rfl, ?_⟩, ?_⟩
    · rw [List.length_set, HN.out]
      have h9 := HS3.out
      exact Sl.of_own (own_drew (ownsRow_setCell_below (ownsRow_setCell_below h9 (a := ⟨w.heap.size + 1, 0, none⟩) (by simp) _) (a := ⟨w.heap.size + 1, 1, none⟩) (by simp) _))
    · exact ((((((((((hb0.trans (hb1.mono (by simp; omega))).trans (hb2.mono (by omega))).trans (hb3.mono (by omega))).setCell (p := ⟨g, _, none⟩) (by simp; omega) _).setCell (p := ⟨g, _, none⟩) (by simp; omega) _).setCell (p := ⟨g, _, none⟩) (by simp; omega) _).setCell (p := ⟨g, _, none⟩) (by simp; omega) _).setCell (p := ⟨g, _, none⟩) (by simp; omega) _).setCell (by simp) _).setCell (by simp) _).drew
  · simp [wset]
    generalize hnn : ps.length = n at *
    have HN := Lib.hid hnn
    clear hnn
    go_enter Try.func35, Try.ntmps35
    go_wp2_with fail
    refine hown.mono ?_
    rintro e w1 ⟨pv, rfl, hst, hb1⟩
    obtain ⟨hc1, hf1⟩ := bcell hb1
    have hz1 := hb1.size
    simp at hz1
    have z1 : w.heap.size < w1.heap.size := by omega
    have z2 : w.heap.size + 1 < w1.heap.size := by omega
    go_wp2_with fail
    refine (hhad _ _ _ hst).mono ?_
    rintro e w2 ⟨rfl, hb2⟩
    have hz2 := hb2.size
    have y1 : w2.cell? ⟨w.heap.size + 1, 0, none⟩ = some (.int .i64 0) := by rw [hb2.cell (p := ⟨w.heap.size + 1, 0, none⟩) (by simp; omega), hc1 _ _ (by simp)]; simp
    have y2 : w2.cell? ⟨w.heap.size + 1, 1, none⟩ = some (.slice none 0 0) := by rw [hb2.cell (p := ⟨w.heap.size + 1, 1, none⟩) (by simp; omega), hc1 _ _ (by simp)]; simp
    have y3 : w2.frozen? ⟨w.heap.size + 1, 0, none⟩ = false := by rw [hb2.frozen (p := ⟨w.heap.size + 1, 0, none⟩) (by simp; omega), hf1 _ _ (by simp)]; simp
    have y4 : w2.frozen? ⟨w.heap.size + 1, 1, none⟩ = false := by rw [hb2.frozen (p := ⟨w.heap.size + 1, 1, none⟩) (by simp; omega), hf1 _ _ (by simp)]; simp
    clear hc1 hf1
    have hst2 := hst.below hb2
    obtain ⟨B, A1, c1, rfl, hB, hBlt, b0, b1, ho1, hnB⟩ := hst2.read
    simp at hB
    rw [HN.out] at ho1 b1 hnB
    obtain ⟨g, c', he, hg1, hg2, _, _, hel, hfr⟩ := hel _ _ _ ho1
    injection he with he1 _ he2
    subst he1 he2
    have q0 := hel 0 _ rfl
    have q1 := hel 1 _ rfl
    have q2 := hel 2 _ rfl
    have q3 := hel 3 _ rfl
    have q4 := hel 4 _ rfl
    simp only [Nat.add_zero] at q0
    clear hel
    have hne : ¬ g = B := by simpa [Value.ownBlock] using hnB
    have hne' : ¬ B = g := fun e => hne e.symm
    simp at hg1
    have hgR' : ¬ w.heap.size + 1 = g := by omega
    have hgX : ¬ w2.heap.size = g := by omega
    have hgX' : ¬ g = w2.heap.size := by omega
    have hBX : ¬ w2.heap.size = B := by omega
    have hs3 := hset _ _ _ _ (ho1.alloc (.cells #[.int .i64 1, .int .i64 xa, .int .i64 xb, .int .i64 u, .int .i64 xd] 54)) ⟨1, xa, xb, u, xd⟩
    have HS3 := Lib.hid hs3
    clear hs3 hset
    go_wp2_with fail
    obtain ⟨w3, hw3⟩ : ∃ w3, w2.alloc (.cells #[.int .i64 1, .int .i64 xa, .int .i64 xb, .int .i64 u, .int .i64 xd] 54) = w3 := ⟨_, rfl⟩
    have hb3 : Below w2.heap.size w2 w3 := hw3 ▸ (Below.refl _ _).alloc (Nat.le_refl _) _
    have X0 : w3.cell? ⟨w2.heap.size, 0, none⟩ = some (.int .i64 1) := by rw [← hw3]; simp
    have X1 : w3.cell? ⟨w2.heap.size, 1, none⟩ = some (.int .i64 xa) := by rw [← hw3]; simp
    have X2 : w3.cell? ⟨w2.heap.size, 2, none⟩ = some (.int .i64 xb) := by rw [← hw3]; simp
    have X3 : w3.cell? ⟨w2.heap.size, 3, none⟩ = some (.int .i64 u) := by rw [← hw3]; simp
    have X4 : w3.cell? ⟨w2.heap.size, 4, none⟩ = some (.int .i64 xd) := by rw [← hw3]; simp
    have hz3 := hb3.size
    have hB3 : B < w3.heap.size := by omega
    have Y1 : w3.cell? ⟨w.heap.size + 1, 0, none⟩ = some (.int .i64 0) := (hb3.cell (p := ⟨w.heap.size + 1, 0, none⟩) (by simp; omega)).trans y1
    have Y2 : w3.cell? ⟨w.heap.size + 1, 1, none⟩ = some (.slice none 0 0) := (hb3.cell (p := ⟨w.heap.size + 1, 1, none⟩) (by simp; omega)).trans y2
    have Y3 : w3.frozen? ⟨w.heap.size + 1, 0, none⟩ = false := (hb3.frozen (p := ⟨w.heap.size + 1, 0, none⟩) (by simp; omega)).trans y3
    have Y4 : w3.frozen? ⟨w.heap.size + 1, 1, none⟩ = false := (hb3.frozen (p := ⟨w.heap.size + 1, 1, none⟩) (by simp; omega)).trans y4
    have D0 : w3.cell? ⟨B, 0, none⟩ = some (.int .i64 cap) := (hb3.cell (p := ⟨B, 0, none⟩) hBlt).trans b0
    have D1 : w3.cell? ⟨B, 1, none⟩ = some (.slice (some ⟨g, 0, none⟩) n c1) := (hb3.cell (p := ⟨B, 1, none⟩) hBlt).trans b1
    have Q0 := (hb3.cell (p := ⟨g, k * 5, none⟩) hg2).trans q0
    have Q1 := (hb3.cell (p := ⟨g, k * 5 + 1, none⟩) hg2).trans q1
    have Q2 := (hb3.cell (p := ⟨g, k * 5 + 2, none⟩) hg2).trans q2
    have Q3 := (hb3.cell (p := ⟨g, k * 5 + 3, none⟩) hg2).trans q3
    have Q4 := (hb3.cell (p := ⟨g, k * 5 + 4, none⟩) hg2).trans q4
    have QF : ∀ o, w3.frozen? ⟨g, o, none⟩ = false := fun o => (hb3.frozen (p := ⟨g, o, none⟩) hg2).trans (hfr o)
    rw [hw3] at HS3 ⊢
    clear y1 y2 y3 y4 b0 b1 q0 q1 q2 q3 q4 hfr hw3
    go_region_held3 (fun w' => w'.cell? ⟨B, 1, none⟩ = some (.slice (some ⟨g, 0, none⟩) n c1) ∧ w'.cell? ⟨w2.heap.size, 0, none⟩ = some (.int .i64 1) ∧ w'.cell? ⟨w2.heap.size, 1, none⟩ = some (.int .i64 xa) ∧ w'.cell? ⟨w2.heap.size, 2, none⟩ = some (.int .i64 xb) ∧ w'.cell? ⟨w2.heap.size, 3, none⟩ = some (.int .i64 u) ∧ w'.cell? ⟨w2.heap.size, 4, none⟩ = some (.int .i64 xd)) (go_keep) (fail)
    go_wp2
    refine bodyPost_ret (v := .tuple #[.agg #[.int .i64 cap, .slice (some ⟨g, 0, none⟩) n c1], .int .i64 k, .int .i64 0]) (by simp [results, Try.results35, go_sem, Y1, Y2]) rfl ⟨_, rfl, ⟨_, rfl, ?_⟩, ?_⟩
    · rw [List.length_set, HN.out]
      have h9 := HS3.out
      exact Sl.of_own (own_drew (ownsRow_setCell_below (ownsRow_setCell_below h9 (a := ⟨w.heap.size + 1, 0, none⟩) (by simp) _) (a := ⟨w.heap.size + 1, 1, none⟩) (by simp) _))
    · exact ((((((((((hb0.trans (hb1.mono (by simp; omega))).trans (hb2.mono (by omega))).trans (hb3.mono (by omega))).setCell (p := ⟨g, _, none⟩) (by simp; omega) _).setCell (p := ⟨g, _, none⟩) (by simp; omega) _).setCell (p := ⟨g, _, none⟩) (by simp; omega) _).setCell (p := ⟨g, _, none⟩) (by simp; omega) _).setCell (p := ⟨g, _, none⟩) (by simp; omega) _).setCell (by simp) _).setCell (by simp) _).drew
  · simp [wset]
    generalize hnn : ps.length = n at *
    have HN := Lib.hid hnn
    clear hnn
    go_enter Try.func35, Try.ntmps35
    go_wp2_with fail
    refine hown.mono ?_
    rintro e w1 ⟨pv, rfl, hst, hb1⟩
    obtain ⟨hc1, hf1⟩ := bcell hb1
    have hz1 := hb1.size
    simp at hz1
    have z1 : w.heap.size < w1.heap.size := by omega
    have z2 : w.heap.size + 1 < w1.heap.size := by omega
    go_wp2_with fail
    refine (hhad _ _ _ hst).mono ?_
    rintro e w2 ⟨rfl, hb2⟩
    have hz2 := hb2.size
    have y1 : w2.cell? ⟨w.heap.size + 1, 0, none⟩ = some (.int .i64 0) := by rw [hb2.cell (p := ⟨w.heap.size + 1, 0, none⟩) (by simp; omega), hc1 _ _ (by simp)]; simp
    have y2 : w2.cell? ⟨w.heap.size + 1, 1, none⟩ = some (.slice none 0 0) := by rw [hb2.cell (p := ⟨w.heap.size + 1, 1, none⟩) (by simp; omega), hc1 _ _ (by simp)]; simp
    have y3 : w2.frozen? ⟨w.heap.size + 1, 0, none⟩ = false := by rw [hb2.frozen (p := ⟨w.heap.size + 1, 0, none⟩) (by simp; omega), hf1 _ _ (by simp)]; simp
    have y4 : w2.frozen? ⟨w.heap.size + 1, 1, none⟩ = false := by rw [hb2.frozen (p := ⟨w.heap.size + 1, 1, none⟩) (by simp; omega), hf1 _ _ (by simp)]; simp
    clear hc1 hf1
    have hst2 := hst.below hb2
    obtain ⟨B, A1, c1, rfl, hB, hBlt, b0, b1, ho1, hnB⟩ := hst2.read
    simp at hB
    rw [HN.out] at ho1 b1 hnB
    obtain ⟨g, c', he, hg1, hg2, _, _, hel, hfr⟩ := hel _ _ _ ho1
    injection he with he1 _ he2
    subst he1 he2
    have q0 := hel 0 _ rfl
    have q1 := hel 1 _ rfl
    have q2 := hel 2 _ rfl
    have q3 := hel 3 _ rfl
    have q4 := hel 4 _ rfl
    simp only [Nat.add_zero] at q0
    clear hel
    have hne : ¬ g = B := by simpa [Value.ownBlock] using hnB
    have hne' : ¬ B = g := fun e => hne e.symm
    simp at hg1
    have hgR' : ¬ w.heap.size + 1 = g := by omega
    have hgX : ¬ w2.heap.size = g := by omega
    have hgX' : ¬ g = w2.heap.size := by omega
    have hBX : ¬ w2.heap.size = B := by omega
    have hs3 := hset _ _ _ _ (ho1.alloc (.cells #[.int .i64 1, .int .i64 xa, .int .i64 xb, .int .i64 xc, .int .i64 u] 54)) ⟨1, xa, xb, xc, u⟩
    have HS3 := Lib.hid hs3
    clear hs3 hset
    go_wp2_with fail
    obtain ⟨w3, hw3⟩ : ∃ w3, w2.alloc (.cells #[.int .i64 1, .int .i64 xa, .int .i64 xb, .int .i64 xc, .int .i64 u] 54) = w3 := ⟨_, rfl⟩
    have hb3 : Below w2.heap.size w2 w3 := hw3 ▸ (Below.refl _ _).alloc (Nat.le_refl _) _
    have X0 : w3.cell? ⟨w2.heap.size, 0, none⟩ = some (.int .i64 1) := by rw [← hw3]; simp
    have X1 : w3.cell? ⟨w2.heap.size, 1, none⟩ = some (.int .i64 xa) := by rw [← hw3]; simp
    have X2 : w3.cell? ⟨w2.heap.size, 2, none⟩ = some (.int .i64 xb) := by rw [← hw3]; simp
    have X3 : w3.cell? ⟨w2.heap.size, 3, none⟩ = some (.int .i64 xc) := by rw [← hw3]; simp
    have X4 : w3.cell? ⟨w2.heap.size, 4, none⟩ = some (.int .i64 u) := by rw [← hw3]; simp
    have hz3 := hb3.size
    have hB3 : B < w3.heap.size := by omega
    have Y1 : w3.cell? ⟨w.heap.size + 1, 0, none⟩ = some (.int .i64 0) := (hb3.cell (p := ⟨w.heap.size + 1, 0, none⟩) (by simp; omega)).trans y1
    have Y2 : w3.cell? ⟨w.heap.size + 1, 1, none⟩ = some (.slice none 0 0) := (hb3.cell (p := ⟨w.heap.size + 1, 1, none⟩) (by simp; omega)).trans y2
    have Y3 : w3.frozen? ⟨w.heap.size + 1, 0, none⟩ = false := (hb3.frozen (p := ⟨w.heap.size + 1, 0, none⟩) (by simp; omega)).trans y3
    have Y4 : w3.frozen? ⟨w.heap.size + 1, 1, none⟩ = false := (hb3.frozen (p := ⟨w.heap.size + 1, 1, none⟩) (by simp; omega)).trans y4
    have D0 : w3.cell? ⟨B, 0, none⟩ = some (.int .i64 cap) := (hb3.cell (p := ⟨B, 0, none⟩) hBlt).trans b0
    have D1 : w3.cell? ⟨B, 1, none⟩ = some (.slice (some ⟨g, 0, none⟩) n c1) := (hb3.cell (p := ⟨B, 1, none⟩) hBlt).trans b1
    have Q0 := (hb3.cell (p := ⟨g, k * 5, none⟩) hg2).trans q0
    have Q1 := (hb3.cell (p := ⟨g, k * 5 + 1, none⟩) hg2).trans q1
    have Q2 := (hb3.cell (p := ⟨g, k * 5 + 2, none⟩) hg2).trans q2
    have Q3 := (hb3.cell (p := ⟨g, k * 5 + 3, none⟩) hg2).trans q3
    have Q4 := (hb3.cell (p := ⟨g, k * 5 + 4, none⟩) hg2).trans q4
    have QF : ∀ o, w3.frozen? ⟨g, o, none⟩ = false := fun o => (hb3.frozen (p := ⟨g, o, none⟩) hg2).trans (hfr o)
    rw [hw3] at HS3 ⊢
    clear y1 y2 y3 y4 b0 b1 q0 q1 q2 q3 q4 hfr hw3
    go_region_held3 (fun w' => w'.cell? ⟨B, 1, none⟩ = some (.slice (some ⟨g, 0, none⟩) n c1) ∧ w'.cell? ⟨w2.heap.size, 0, none⟩ = some (.int .i64 1) ∧ w'.cell? ⟨w2.heap.size, 1, none⟩ = some (.int .i64 xa) ∧ w'.cell? ⟨w2.heap.size, 2, none⟩ = some (.int .i64 xb) ∧ w'.cell? ⟨w2.heap.size, 3, none⟩ = some (.int .i64 xc) ∧ w'.cell? ⟨w2.heap.size, 4, none⟩ = some (.int .i64 u)) (go_keep) (fail)
    go_wp2
    refine bodyPost_ret (v := .tuple #[.agg #[.int .i64 cap, .slice (some ⟨g, 0, none⟩) n c1], .int .i64 k, .int .i64 0]) (by simp [results, Try.results35, go_sem, Y1, Y2]) rfl ⟨_, rfl, ⟨_, rfl, ?_⟩, ?_⟩
    · rw [List.length_set, HN.out]
      have h9 := HS3.out
      exact Sl.of_own (own_drew (ownsRow_setCell_below (ownsRow_setCell_below h9 (a := ⟨w.heap.size + 1, 0, none⟩) (by simp) _) (a := ⟨w.heap.size + 1, 1, none⟩) (by simp) _))
    · exact ((((((((((hb0.trans (hb1.mono (by simp; omega))).trans (hb2.mono (by omega))).trans (hb3.mono (by omega))).setCell (p := ⟨g, _, none⟩) (by simp; omega) _).setCell (p := ⟨g, _, none⟩) (by simp; omega) _).setCell (p := ⟨g, _, none⟩) (by simp; omega) _).setCell (p := ⟨g, _, none⟩) (by simp; omega) _).setCell (p := ⟨g, _, none⟩) (by simp; omega) _).setCell (by simp) _).setCell (by simp) _).drew
end Go.Proofs.Ytoogobenjhmjjaa
