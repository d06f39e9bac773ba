/- page.Write, where the page is had more than once. -/
import Derived.Test.YtoogobenjhmjjaaPgWrite2
namespace Go.Proofs.Ytoogobenjhmjjaa
open Go Go.RowKit

theorem idxF_spec {α : Type} (p : α → Bool) (xs : List α) (k : Nat) (h : idxF p xs = k) : ∃ hk : k < xs.length, p xs[k] = true ∧ ∀ j (hj : j < k), p (xs[j]'(Nat.lt_trans hj hk)) = false := by
  unfold idxF at h
  split at h
  · rename_i hl
    have hk : xs.findIdx p = k := by omega
    subst hk
    exact ⟨hl, List.findIdx_getElem, fun j hj => by simpa using List.not_of_lt_findIdx hj⟩
  · omega

theorem alloc_keep (cap : Int) (ps : List Pg) (x : Pg) (k : Nat) (hk : k < ps.length) (hr : (pgAt ps k).r ≠ 0) : k < (allocL cap ps x).2.2.length ∧ pgAt (allocL cap ps x).2.2 k = pgAt ps k := by
  unfold allocL
  rcases idxF_range freeP ps with h | ⟨j, hj, h⟩
  · rw [if_pos h]
    by_cases h2 : (ps.length : Int) = cap
    · rw [if_pos h2]; exact ⟨hk, rfl⟩
    · rw [if_neg h2]
      refine ⟨by simp; omega, ?_⟩
      simp [pgAt, hk, List.getElem?_append_left]
  · rw [if_neg (by omega)]
    obtain ⟨_, hp, _⟩ := idxF_spec freeP ps j h
    have hjk : j ≠ k := by
      rintro rfl
      apply hr
      simpa [pgAt, hj, freeP] using hp
    refine ⟨by simpa using hk, ?_⟩
    simp only [h, Int.toNat_natCast, pgAt, List.getD_eq_getElem?_getD]
    rw [List.getElem?_set_ne hjk]

set_option maxHeartbeats 2000000 in
theorem Write_new (v : Value) (cap : Int) (ps : List Pg) (p i u : Int) (w : World) (hv : StV w v cap ps) (hn : ps.length ≤ 1000) (hh' : hadL cap ps p = 0) (hi0 : 0 ≤ i) (hi4 : i < 4) (h1 : ¬ (pgAt ps p).r = 1) :
    Calls Try.prog 35 #[v, .int .i64 p, .int .i64 i, .int .i64 u] w fun e w' => ∃ v', e = .returned (.tuple #[v', .int .i64 (writeL cap ps p i u).1, .int .i64 (writeL cap ps p i u).2.1]) ∧ StV w' v' cap (writeL cap ps p i u).2.2 ∧ Below w.heap.size w w' := by
  obtain ⟨sv, rfl, hsl⟩ := hv
  have hb0 : Below w.heap.size w ((w.alloc (.cells #[.int .i64 cap, sv] 25)).alloc (.cells #[.int .i64 0, .slice none 0 0] 25)) := ((Below.refl _ w).alloc (Nat.le_refl _) _).alloc (by simp) _
  have hown := own_any cap sv ps _ (hsl.below hb0) hn
  have hhad := fun base pv W hs => had_any base pv cap ps p W hs
  obtain ⟨A, c, rfl, _, _⟩ := hsl.form
  rw [show writeL cap ps p i u = (if (allocL cap ps (wset (pgAt ps p) i u)).2.1 = 0 then ((allocL cap ps (wset (pgAt ps p) i u)).1, 0, freeL (allocL cap ps (wset (pgAt ps p) i u)).2.2 p.toNat) else allocL cap ps (wset (pgAt ps p) i u)) from by simp [writeL, hh', hi0, hi4, h1]]
  obtain ⟨_, k, rfl, hk, _, hr1, hr2⟩ := had_ok hh'
  rw [hh'] at hhad
  clear hh'
  rw [Int.toNat_natCast]
  have hal := fun (base : Nat) (pv : Value) (W : World) hs hb => alloc_any base pv cap ps (wset (pgAt ps k) i u) W hs hb hn
  obtain ⟨kp1, kp2⟩ := alloc_keep cap ps (wset (pgAt ps k) i u) k hk (by omega)
  have hfr2 := fun (base : Nat) (pv : Value) (W : World) hs => free_any base pv cap (allocL cap ps (wset (pgAt ps k) i u)).2.2 k W hs kp1 (by rw [kp2]; omega) (by rw [kp2]; exact hr2)
  clear kp1 kp2
  generalize hr : allocL cap ps (wset (pgAt ps k) i u) = r at hal hfr2 ⊢
  clear hr
  have hat : pgAt ps k = ps[k] := by simp [pgAt, hk]
  have hel := fun (W : World) (base : Nat) (v : Value) h => own_elem (w := W) (base := base) (e := 54) (v := v) encP encP_len h k hk
  rw [← hat] at hel
  generalize pgAt ps k = x at hel h1 hr1 hr2 hal ⊢
  obtain ⟨xr, xa, xb, xc, xd⟩ := x
  simp only at h1 hr1 hr2
  have h1' : (xr == 1) = false := by simpa using h1
  clear hat h1
  have hlt : (k : Int) < (ps.length : Int) := by omega
  have hge : (0 : Int) ≤ (k : Int) := by omega
  have hk' := Lib.hid hk
  clear hk hn
  have h4 : i = 0 ∨ i = 1 ∨ i = 2 ∨ i = 3 := by omega
  clear hi0 hi4
  cases hq : (r.2.1 == 0) with
  | false =>
    have hq2 : ¬ r.2.1 = 0 := by simpa using hq
    rw [if_neg hq2]
    clear hq2
    rcases h4 with rfl | rfl | rfl | rfl
    · simp [wset, encP] at hal
      generalize hnn : ps.length = n at *
      have HN := Lib.hid hnn
      clear hnn
      go_enter Try.func35, Try.ntmps35
      go_wp2_with fail
      refine hown.mono ?_
      rintro e w1 ⟨pv, rfl, hst, hb1⟩
      obtain ⟨hc1, hf1⟩ := bcell hb1
      have hz1 := hb1.size
      simp at hz1
      have z1 : w.heap.size < w1.heap.size := by omega
      have z2 : w.heap.size + 1 < w1.heap.size := by omega
      go_wp2_with fail
      refine (hhad _ _ _ hst).mono ?_
      rintro e w2 ⟨rfl, hb2⟩
      have hz2 := hb2.size
      have y1 : w2.cell? ⟨w.heap.size + 1, 0, none⟩ = some (.int .i64 0) := by rw [hb2.cell (p := ⟨w.heap.size + 1, 0, none⟩) (by simp; omega), hc1 _ _ (by simp)]; simp
      have y2 : w2.cell? ⟨w.heap.size + 1, 1, none⟩ = some (.slice none 0 0) := by rw [hb2.cell (p := ⟨w.heap.size + 1, 1, none⟩) (by simp; omega), hc1 _ _ (by simp)]; simp
      have y3 : w2.frozen? ⟨w.heap.size + 1, 0, none⟩ = false := by rw [hb2.frozen (p := ⟨w.heap.size + 1, 0, none⟩) (by simp; omega), hf1 _ _ (by simp)]; simp
      have y4 : w2.frozen? ⟨w.heap.size + 1, 1, none⟩ = false := by rw [hb2.frozen (p := ⟨w.heap.size + 1, 1, none⟩) (by simp; omega), hf1 _ _ (by simp)]; simp
      clear hc1 hf1
      have hst2 := hst.below hb2
      obtain ⟨B, A1, c1, rfl, hB, hBlt, b0, b1, ho1, hnB⟩ := hst2.read
      simp at hB
      rw [HN.out] at ho1 b1 hnB
      obtain ⟨g, c', he, hg1, hg2, _, _, hel, hfr⟩ := hel _ _ _ ho1
      injection he with he1 _ he2
      subst he1 he2
      have q0 := hel 0 _ rfl
      have q1 := hel 1 _ rfl
      have q2 := hel 2 _ rfl
      have q3 := hel 3 _ rfl
      have q4 := hel 4 _ rfl
      simp only [Nat.add_zero] at q0
      clear hel
      go_wp2_with fail
      have hb3 : Below w2.heap.size w2 (w2.alloc (.cells #[.int .i64 xr, .int .i64 u, .int .i64 xb, .int .i64 xc, .int .i64 xd] 54)) := (Below.refl _ _).alloc (Nat.le_refl _) _
      refine (hal _ _ _ (hst2.below hb3) (by simp; omega)).mono ?_
      rintro e w3 ⟨rfl, hst3, hb4⟩
      have hz4 := hb4.size
      simp at hz4
      have Y1 : w3.cell? ⟨w.heap.size + 1, 0, none⟩ = some (.int .i64 0) := (hb4.cell (p := ⟨w.heap.size + 1, 0, none⟩) (by simp)).trans ((hb3.cell (p := ⟨w.heap.size + 1, 0, none⟩) (by simp; omega)).trans y1)
      have Y2 : w3.cell? ⟨w.heap.size + 1, 1, none⟩ = some (.slice none 0 0) := (hb4.cell (p := ⟨w.heap.size + 1, 1, none⟩) (by simp)).trans ((hb3.cell (p := ⟨w.heap.size + 1, 1, none⟩) (by simp; omega)).trans y2)
      have Y3 : w3.frozen? ⟨w.heap.size + 1, 0, none⟩ = false := (hb4.frozen (p := ⟨w.heap.size + 1, 0, none⟩) (by simp)).trans ((hb3.frozen (p := ⟨w.heap.size + 1, 0, none⟩) (by simp; omega)).trans y3)
      have Y4 : w3.frozen? ⟨w.heap.size + 1, 1, none⟩ = false := (hb4.frozen (p := ⟨w.heap.size + 1, 1, none⟩) (by simp)).trans ((hb3.frozen (p := ⟨w.heap.size + 1, 1, none⟩) (by simp; omega)).trans y4)
      clear y1 y2 y3 y4 b0 b1 q0 q1 q2 q3 q4 hfr
      clear hfr2
      obtain ⟨B', A2, c2, he, hB', hBlt', b0, b1, ho2, _⟩ := hst3.read
      injection he with he
      injection he with he
      injection he with he
      subst he
      go_wp2
      refine bodyPost_ret (v := .tuple #[.agg #[.int .i64 cap, .slice A2 r.2.2.length c2], .int .i64 r.1, .int .i64 r.2.1]) (by simp [results, Try.results35, go_sem, Y1, Y2]) rfl ⟨_, rfl, ⟨_, rfl, ?_⟩, ?_⟩
      · exact Sl.of_own (ownsRow_setCell_below (ownsRow_setCell_below ho2 (by simp) _) (by simp) _)
      · exact (((((hb0.trans (hb1.mono (by simp; omega))).trans (hb2.mono (by omega))).trans (hb3.mono (by omega))).trans (hb4.mono (by simp; omega))).setCell (by simp) _).setCell (by simp) _
    · simp [wset, encP] at hal
      generalize hnn : ps.length = n at *
      have HN := Lib.hid hnn
      clear hnn
      go_enter Try.func35, Try.ntmps35
      go_wp2_with fail
      refine hown.mono ?_
      rintro e w1 ⟨pv, rfl, hst, hb1⟩
      obtain ⟨hc1, hf1⟩ := bcell hb1
      have hz1 := hb1.size
      simp at hz1
      have z1 : w.heap.size < w1.heap.size := by omega
      have z2 : w.heap.size + 1 < w1.heap.size := by omega
      go_wp2_with fail
      refine (hhad _ _ _ hst).mono ?_
      rintro e w2 ⟨rfl, hb2⟩
      have hz2 := hb2.size
      have y1 : w2.cell? ⟨w.heap.size + 1, 0, none⟩ = some (.int .i64 0) := by rw [hb2.cell (p := ⟨w.heap.size + 1, 0, none⟩) (by simp; omega), hc1 _ _ (by simp)]; simp
      have y2 : w2.cell? ⟨w.heap.size + 1, 1, none⟩ = some (.slice none 0 0) := by rw [hb2.cell (p := ⟨w.heap.size + 1, 1, none⟩) (by simp; omega), hc1 _ _ (by simp)]; simp
      have y3 : w2.frozen? ⟨w.heap.size + 1, 0, none⟩ = false := by rw [hb2.frozen (p := ⟨w.heap.size + 1, 0, none⟩) (by simp; omega), hf1 _ _ (by simp)]; simp
      have y4 : w2.frozen? ⟨w.heap.size + 1, 1, none⟩ = false := by rw [hb2.frozen (p := ⟨w.heap.size + 1, 1, none⟩) (by simp; omega), hf1 _ _ (by simp)]; simp
      clear hc1 hf1
      have hst2 := hst.below hb2
      obtain ⟨B, A1, c1, rfl, hB, hBlt, b0, b1, ho1, hnB⟩ := hst2.read
      simp at hB
      rw [HN.out] at ho1 b1 hnB
      obtain ⟨g, c', he, hg1, hg2, _, _, hel, hfr⟩ := hel _ _ _ ho1
      injection he with he1 _ he2
      subst he1 he2
      have q0 := hel 0 _ rfl
      have q1 := hel 1 _ rfl
      have q2 := hel 2 _ rfl
      have q3 := hel 3 _ rfl
      have q4 := hel 4 _ rfl
      simp only [Nat.add_zero] at q0
      clear hel
      go_wp2_with fail
      have hb3 : Below w2.heap.size w2 (w2.alloc (.cells #[.int .i64 xr, .int .i64 xa, .int .i64 u, .int .i64 xc, .int .i64 xd] 54)) := (Below.refl _ _).alloc (Nat.le_refl _) _
      refine (hal _ _ _ (hst2.below hb3) (by simp; omega)).mono ?_
      rintro e w3 ⟨rfl, hst3, hb4⟩
      have hz4 := hb4.size
      simp at hz4
      have Y1 : w3.cell? ⟨w.heap.size + 1, 0, none⟩ = some (.int .i64 0) := (hb4.cell (p := ⟨w.heap.size + 1, 0, none⟩) (by simp)).trans ((hb3.cell (p := ⟨w.heap.size + 1, 0, none⟩) (by simp; omega)).trans y1)
      have Y2 : w3.cell? ⟨w.heap.size + 1, 1, none⟩ = some (.slice none 0 0) := (hb4.cell (p := ⟨w.heap.size + 1, 1, none⟩) (by simp)).trans ((hb3.cell (p := ⟨w.heap.size + 1, 1, none⟩) (by simp; omega)).trans y2)
      have Y3 : w3.frozen? ⟨w.heap.size + 1, 0, none⟩ = false := (hb4.frozen (p := ⟨w.heap.size + 1, 0, none⟩) (by simp)).trans ((hb3.frozen (p := ⟨w.heap.size + 1, 0, none⟩) (by simp; omega)).trans y3)
      have Y4 : w3.frozen? ⟨w.heap.size + 1, 1, none⟩ = false := (hb4.frozen (p := ⟨w.heap.size + 1, 1, none⟩) (by simp)).trans ((hb3.frozen (p := ⟨w.heap.size + 1, 1, none⟩) (by simp; omega)).trans y4)
      clear y1 y2 y3 y4 b0 b1 q0 q1 q2 q3 q4 hfr
      clear hfr2
      obtain ⟨B', A2, c2, he, hB', hBlt', b0, b1, ho2, _⟩ := hst3.read
      injection he with he
      injection he with he
      injection he with he
      subst he
      go_wp2
      refine bodyPost_ret (v := .tuple #[.agg #[.int .i64 cap, .slice A2 r.2.2.length c2], .int .i64 r.1, .int .i64 r.2.1]) (by simp [results, Try.results35, go_sem, Y1, Y2]) rfl ⟨_, rfl, ⟨_, rfl, ?_⟩, ?_⟩
      · exact Sl.of_own (ownsRow_setCell_below (ownsRow_setCell_below ho2 (by simp) _) (by simp) _)
      · exact (((((hb0.trans (hb1.mono (by simp; omega))).trans (hb2.mono (by omega))).trans (hb3.mono (by omega))).trans (hb4.mono (by simp; omega))).setCell (by simp) _).setCell (by simp) _
    · simp [wset, encP] at hal
      generalize hnn : ps.length = n at *
      have HN := Lib.hid hnn
      clear hnn
      go_enter Try.func35, Try.ntmps35
      go_wp2_with fail
      refine hown.mono ?_
      rintro e w1 ⟨pv, rfl, hst, hb1⟩
      obtain ⟨hc1, hf1⟩ := bcell hb1
      have hz1 := hb1.size
      simp at hz1
      have z1 : w.heap.size < w1.heap.size := by omega
      have z2 : w.heap.size + 1 < w1.heap.size := by omega
      go_wp2_with fail
      refine (hhad _ _ _ hst).mono ?_
      rintro e w2 ⟨rfl, hb2⟩
      have hz2 := hb2.size
      have y1 : w2.cell? ⟨w.heap.size + 1, 0, none⟩ = some (.int .i64 0) := by rw [hb2.cell (p := ⟨w.heap.size + 1, 0, none⟩) (by simp; omega), hc1 _ _ (by simp)]; simp
      have y2 : w2.cell? ⟨w.heap.size + 1, 1, none⟩ = some (.slice none 0 0) := by rw [hb2.cell (p := ⟨w.heap.size + 1, 1, none⟩) (by simp; omega), hc1 _ _ (by simp)]; simp
      have y3 : w2.frozen? ⟨w.heap.size + 1, 0, none⟩ = false := by rw [hb2.frozen (p := ⟨w.heap.size + 1, 0, none⟩) (by simp; omega), hf1 _ _ (by simp)]; simp
      have y4 : w2.frozen? ⟨w.heap.size + 1, 1, none⟩ = false := by rw [hb2.frozen (p := ⟨w.heap.size + 1, 1, none⟩) (by simp; omega), hf1 _ _ (by simp)]; simp
      clear hc1 hf1
      have hst2 := hst.below hb2
      obtain ⟨B, A1, c1, rfl, hB, hBlt, b0, b1, ho1, hnB⟩ := hst2.read
      simp at hB
      rw [HN.out] at ho1 b1 hnB
      obtain ⟨g, c', he, hg1, hg2, _, _, hel, hfr⟩ := hel _ _ _ ho1
      injection he with he1 _ he2
      subst he1 he2
      have q0 := hel 0 _ rfl
      have q1 := hel 1 _ rfl
      have q2 := hel 2 _ rfl
      have q3 := hel 3 _ rfl
      have q4 := hel 4 _ rfl
      simp only [Nat.add_zero] at q0
      clear hel
      go_wp2_with fail
      have hb3 : Below w2.heap.size w2 (w2.alloc (.cells #[.int .i64 xr, .int .i64 xa, .int .i64 xb, .int .i64 u, .int .i64 xd] 54)) := (Below.refl _ _).alloc (Nat.le_refl _) _
      refine (hal _ _ _ (hst2.below hb3) (by simp; omega)).mono ?_
      rintro e w3 ⟨rfl, hst3, hb4⟩
      have hz4 := hb4.size
      simp at hz4
      have Y1 : w3.cell? ⟨w.heap.size + 1, 0, none⟩ = some (.int .i64 0) := (hb4.cell (p := ⟨w.heap.size + 1, 0, none⟩) (by simp)).trans ((hb3.cell (p := ⟨w.heap.size + 1, 0, none⟩) (by simp; omega)).trans y1)
      have Y2 : w3.cell? ⟨w.heap.size + 1, 1, none⟩ = some (.slice none 0 0) := (hb4.cell (p := ⟨w.heap.size + 1, 1, none⟩) (by simp)).trans ((hb3.cell (p := ⟨w.heap.size + 1, 1, none⟩) (by simp; omega)).trans y2)
      have Y3 : w3.frozen? ⟨w.heap.size + 1, 0, none⟩ = false := (hb4.frozen (p := ⟨w.heap.size + 1, 0, none⟩) (by simp)).trans ((hb3.frozen (p := ⟨w.heap.size + 1, 0, none⟩) (by simp; omega)).trans y3)
      have Y4 : w3.frozen? ⟨w.heap.size + 1, 1, none⟩ = false := (hb4.frozen (p := ⟨w.heap.size + 1, 1, none⟩) (by simp)).trans ((hb3.frozen (p := ⟨w.heap.size + 1, 1, none⟩) (by simp; omega)).trans y4)
      clear y1 y2 y3 y4 b0 b1 q0 q1 q2 q3 q4 hfr
      clear hfr2
      obtain ⟨B', A2, c2, he, hB', hBlt', b0, b1, ho2, _⟩ := hst3.read
      injection he with he
      injection he with he
      injection he with he
      subst he
      go_wp2
      refine bodyPost_ret (v := .tuple #[.agg #[.int .i64 cap, .slice A2 r.2.2.length c2], .int .i64 r.1, .int .i64 r.2.1]) (by simp [results, Try.results35, go_sem, Y1, Y2]) rfl ⟨_, rfl, ⟨_, rfl, ?_⟩, ?_⟩
      · exact Sl.of_own (ownsRow_setCell_below (ownsRow_setCell_below ho2 (by simp) _) (by simp) _)
      · exact (((((hb0.trans (hb1.mono (by simp; omega))).trans (hb2.mono (by omega))).trans (hb3.mono (by omega))).trans (hb4.mono (by simp; omega))).setCell (by simp) _).setCell (by simp) _
    · simp [wset, encP] at hal
      generalize hnn : ps.length = n at *
      have HN := Lib.hid hnn
      clear hnn
      go_enter Try.func35, Try.ntmps35
      go_wp2_with fail
      refine hown.mono ?_
      rintro e w1 ⟨pv, rfl, hst, hb1⟩
      obtain ⟨hc1, hf1⟩ := bcell hb1
      have hz1 := hb1.size
      simp at hz1
      have z1 : w.heap.size < w1.heap.size := by omega
      have z2 : w.heap.size + 1 < w1.heap.size := by omega
      go_wp2_with fail
      refine (hhad _ _ _ hst).mono ?_
      rintro e w2 ⟨rfl, hb2⟩
      have hz2 := hb2.size
      have y1 : w2.cell? ⟨w.heap.size + 1, 0, none⟩ = some (.int .i64 0) := by rw [hb2.cell (p := ⟨w.heap.size + 1, 0, none⟩) (by simp; omega), hc1 _ _ (by simp)]; simp
      have y2 : w2.cell? ⟨w.heap.size + 1, 1, none⟩ = some (.slice none 0 0) := by rw [hb2.cell (p := ⟨w.heap.size + 1, 1, none⟩) (by simp; omega), hc1 _ _ (by simp)]; simp
      have y3 : w2.frozen? ⟨w.heap.size + 1, 0, none⟩ = false := by rw [hb2.frozen (p := ⟨w.heap.size + 1, 0, none⟩) (by simp; omega), hf1 _ _ (by simp)]; simp
      have y4 : w2.frozen? ⟨w.heap.size + 1, 1, none⟩ = false := by rw [hb2.frozen (p := ⟨w.heap.size + 1, 1, none⟩) (by simp; omega), hf1 _ _ (by simp)]; simp
      clear hc1 hf1
      have hst2 := hst.below hb2
      obtain ⟨B, A1, c1, rfl, hB, hBlt, b0, b1, ho1, hnB⟩ := hst2.read
      simp at hB
      rw [HN.out] at ho1 b1 hnB
      obtain ⟨g, c', he, hg1, hg2, _, _, hel, hfr⟩ := hel _ _ _ ho1
      injection he with he1 _ he2
      subst he1 he2
      have q0 := hel 0 _ rfl
      have q1 := hel 1 _ rfl
      have q2 := hel 2 _ rfl
      have q3 := hel 3 _ rfl
      have q4 := hel 4 _ rfl
      simp only [Nat.add_zero] at q0
      clear hel
      go_wp2_with fail
      have hb3 : Below w2.heap.size w2 (w2.alloc (.cells #[.int .i64 xr, .int .i64 xa, .int .i64 xb, .int .i64 xc, .int .i64 u] 54)) := (Below.refl _ _).alloc (Nat.le_refl _) _
      refine (hal _ _ _ (hst2.below hb3) (by simp; omega)).mono ?_
      rintro e w3 ⟨rfl, hst3, hb4⟩
      have hz4 := hb4.size
      simp at hz4
      have Y1 : w3.cell? ⟨w.heap.size + 1, 0, none⟩ = some (.int .i64 0) := (hb4.cell (p := ⟨w.heap.size + 1, 0, none⟩) (by simp)).trans ((hb3.cell (p := ⟨w.heap.size + 1, 0, none⟩) (by simp; omega)).trans y1)
      have Y2 : w3.cell? ⟨w.heap.size + 1, 1, none⟩ = some (.slice none 0 0) := (hb4.cell (p := ⟨w.heap.size + 1, 1, none⟩) (by simp)).trans ((hb3.cell (p := ⟨w.heap.size + 1, 1, none⟩) (by simp; omega)).trans y2)
      have Y3 : w3.frozen? ⟨w.heap.size + 1, 0, none⟩ = false := (hb4.frozen (p := ⟨w.heap.size + 1, 0, none⟩) (by simp)).trans ((hb3.frozen (p := ⟨w.heap.size + 1, 0, none⟩) (by simp; omega)).trans y3)
      have Y4 : w3.frozen? ⟨w.heap.size + 1, 1, none⟩ = false := (hb4.frozen (p := ⟨w.heap.size + 1, 1, none⟩) (by simp)).trans ((hb3.frozen (p := ⟨w.heap.size + 1, 1, none⟩) (by simp; omega)).trans y4)
      clear y1 y2 y3 y4 b0 b1 q0 q1 q2 q3 q4 hfr
      clear hfr2
      obtain ⟨B', A2, c2, he, hB', hBlt', b0, b1, ho2, _⟩ := hst3.read
      injection he with he
      injection he with he
      injection he with he
      subst he
      go_wp2
      refine bodyPost_ret (v := .tuple #[.agg #[.int .i64 cap, .slice A2 r.2.2.length c2], .int .i64 r.1, .int .i64 r.2.1]) (by simp [results, Try.results35, go_sem, Y1, Y2]) rfl ⟨_, rfl, ⟨_, rfl, ?_⟩, ?_⟩
      · exact Sl.of_own (ownsRow_setCell_below (ownsRow_setCell_below ho2 (by simp) _) (by simp) _)
      · exact (((((hb0.trans (hb1.mono (by simp; omega))).trans (hb2.mono (by omega))).trans (hb3.mono (by omega))).trans (hb4.mono (by simp; omega))).setCell (by simp) _).setCell (by simp) _
  | true =>
    have HQ := Lib.hid hq
    have hq2 : r.2.1 = 0 := by simpa using hq
    rw [if_pos hq2]
    clear hq2
    generalize freeL r.2.2 k = qs at hfr2 ⊢
    rcases h4 with rfl | rfl | rfl | rfl
    · simp [wset, encP] at hal
      generalize hnn : ps.length = n at *
      have HN := Lib.hid hnn
      clear hnn
      go_enter Try.func35, Try.ntmps35
      go_wp2_with fail
      refine hown.mono ?_
      rintro e w1 ⟨pv, rfl, hst, hb1⟩
      obtain ⟨hc1, hf1⟩ := bcell hb1
      have hz1 := hb1.size
      simp at hz1
      have z1 : w.heap.size < w1.heap.size := by omega
      have z2 : w.heap.size + 1 < w1.heap.size := by omega
      go_wp2_with fail
      refine (hhad _ _ _ hst).mono ?_
      rintro e w2 ⟨rfl, hb2⟩
      have hz2 := hb2.size
      have y1 : w2.cell? ⟨w.heap.size + 1, 0, none⟩ = some (.int .i64 0) := by rw [hb2.cell (p := ⟨w.heap.size + 1, 0, none⟩) (by simp; omega), hc1 _ _ (by simp)]; simp
      have y2 : w2.cell? ⟨w.heap.size + 1, 1, none⟩ = some (.slice none 0 0) := by rw [hb2.cell (p := ⟨w.heap.size + 1, 1, none⟩) (by simp; omega), hc1 _ _ (by simp)]; simp
      have y3 : w2.frozen? ⟨w.heap.size + 1, 0, none⟩ = false := by rw [hb2.frozen (p := ⟨w.heap.size + 1, 0, none⟩) (by simp; omega), hf1 _ _ (by simp)]; simp
      have y4 : w2.frozen? ⟨w.heap.size + 1, 1, none⟩ = false := by rw [hb2.frozen (p := ⟨w.heap.size + 1, 1, none⟩) (by simp; omega), hf1 _ _ (by simp)]; simp
      clear hc1 hf1
      have hst2 := hst.below hb2
      obtain ⟨B, A1, c1, rfl, hB, hBlt, b0, b1, ho1, hnB⟩ := hst2.read
      simp at hB
      rw [HN.out] at ho1 b1 hnB
      obtain ⟨g, c', he, hg1, hg2, _, _, hel, hfr⟩ := hel _ _ _ ho1
      injection he with he1 _ he2
      subst he1 he2
      have q0 := hel 0 _ rfl
      have q1 := hel 1 _ rfl
      have q2 := hel 2 _ rfl
      have q3 := hel 3 _ rfl
      have q4 := hel 4 _ rfl
      simp only [Nat.add_zero] at q0
      clear hel
      go_wp2_with fail
      have hb3 : Below w2.heap.size w2 (w2.alloc (.cells #[.int .i64 xr, .int .i64 u, .int .i64 xb, .int .i64 xc, .int .i64 xd] 54)) := (Below.refl _ _).alloc (Nat.le_refl _) _
      refine (hal _ _ _ (hst2.below hb3) (by simp; omega)).mono ?_
      rintro e w3 ⟨rfl, hst3, hb4⟩
      have hz4 := hb4.size
      simp at hz4
      have Y1 : w3.cell? ⟨w.heap.size + 1, 0, none⟩ = some (.int .i64 0) := (hb4.cell (p := ⟨w.heap.size + 1, 0, none⟩) (by simp)).trans ((hb3.cell (p := ⟨w.heap.size + 1, 0, none⟩) (by simp; omega)).trans y1)
      have Y2 : w3.cell? ⟨w.heap.size + 1, 1, none⟩ = some (.slice none 0 0) := (hb4.cell (p := ⟨w.heap.size + 1, 1, none⟩) (by simp)).trans ((hb3.cell (p := ⟨w.heap.size + 1, 1, none⟩) (by simp; omega)).trans y2)
      have Y3 : w3.frozen? ⟨w.heap.size + 1, 0, none⟩ = false := (hb4.frozen (p := ⟨w.heap.size + 1, 0, none⟩) (by simp)).trans ((hb3.frozen (p := ⟨w.heap.size + 1, 0, none⟩) (by simp; omega)).trans y3)
      have Y4 : w3.frozen? ⟨w.heap.size + 1, 1, none⟩ = false := (hb4.frozen (p := ⟨w.heap.size + 1, 1, none⟩) (by simp)).trans ((hb3.frozen (p := ⟨w.heap.size + 1, 1, none⟩) (by simp; omega)).trans y4)
      clear y1 y2 y3 y4 b0 b1 q0 q1 q2 q3 q4 hfr
      go_wp2_with fail
      refine (hfr2 _ _ _ hst3).mono ?_
      rintro e w4 ⟨rfl, hst4, hb5⟩
      have hz5 := hb5.size
      obtain ⟨B', A2, c2, he, hB', hBlt', b0, b1, ho2, _⟩ := hst4.read
      injection he with he
      injection he with he
      injection he with he
      subst he
      have X1 : w4.cell? ⟨w.heap.size + 1, 0, none⟩ = some (.int .i64 0) := (hb5.cell (p := ⟨w.heap.size + 1, 0, none⟩) (by simp)).trans Y1
      have X2 : w4.cell? ⟨w.heap.size + 1, 1, none⟩ = some (.slice none 0 0) := (hb5.cell (p := ⟨w.heap.size + 1, 1, none⟩) (by simp)).trans Y2
      have X3 : w4.frozen? ⟨w.heap.size + 1, 0, none⟩ = false := (hb5.frozen (p := ⟨w.heap.size + 1, 0, none⟩) (by simp)).trans Y3
      have X4 : w4.frozen? ⟨w.heap.size + 1, 1, none⟩ = false := (hb5.frozen (p := ⟨w.heap.size + 1, 1, none⟩) (by simp)).trans Y4
      clear Y1 Y2 Y3 Y4
      go_wp2
      refine bodyPost_ret (v := .tuple #[.agg #[.int .i64 cap, .slice A2 qs.length c2], .int .i64 r.1, .int .i64 r.2.1]) (by simp [results, Try.results35, go_sem, X1, X2]) rfl ⟨_, by rw [beq_iff_eq.1 HQ.out], ⟨_, rfl, ?_⟩, ?_⟩
      · exact Sl.of_own (ownsRow_setCell_below (ownsRow_setCell_below ho2 (by simp) _) (by simp) _)
      · exact ((((((hb0.trans (hb1.mono (by simp; omega))).trans (hb2.mono (by omega))).trans (hb3.mono (by omega))).trans (hb4.mono (by simp; omega))).trans (hb5.mono (by simp; omega))).setCell (by simp) _).setCell (by simp) _
    · simp [wset, encP] at hal
      generalize hnn : ps.length = n at *
      have HN := Lib.hid hnn
      clear hnn
      go_enter Try.func35, Try.ntmps35
      go_wp2_with fail
      refine hown.mono ?_
      rintro e w1 ⟨pv, rfl, hst, hb1⟩
      obtain ⟨hc1, hf1⟩ := bcell hb1
      have hz1 := hb1.size
      simp at hz1
      have z1 : w.heap.size < w1.heap.size := by omega
      have z2 : w.heap.size + 1 < w1.heap.size := by omega
      go_wp2_with fail
      refine (hhad _ _ _ hst).mono ?_
      rintro e w2 ⟨rfl, hb2⟩
      have hz2 := hb2.size
      have y1 : w2.cell? ⟨w.heap.size + 1, 0, none⟩ = some (.int .i64 0) := by rw [hb2.cell (p := ⟨w.heap.size + 1, 0, none⟩) (by simp; omega), hc1 _ _ (by simp)]; simp
      have y2 : w2.cell? ⟨w.heap.size + 1, 1, none⟩ = some (.slice none 0 0) := by rw [hb2.cell (p := ⟨w.heap.size + 1, 1, none⟩) (by simp; omega), hc1 _ _ (by simp)]; simp
      have y3 : w2.frozen? ⟨w.heap.size + 1, 0, none⟩ = false := by rw [hb2.frozen (p := ⟨w.heap.size + 1, 0, none⟩) (by simp; omega), hf1 _ _ (by simp)]; simp
      have y4 : w2.frozen? ⟨w.heap.size + 1, 1, none⟩ = false := by rw [hb2.frozen (p := ⟨w.heap.size + 1, 1, none⟩) (by simp; omega), hf1 _ _ (by simp)]; simp
      clear hc1 hf1
      have hst2 := hst.below hb2
      obtain ⟨B, A1, c1, rfl, hB, hBlt, b0, b1, ho1, hnB⟩ := hst2.read
      simp at hB
      rw [HN.out] at ho1 b1 hnB
      obtain ⟨g, c', he, hg1, hg2, _, _, hel, hfr⟩ := hel _ _ _ ho1
      injection he with he1 _ he2
      subst he1 he2
      have q0 := hel 0 _ rfl
      have q1 := hel 1 _ rfl
      have q2 := hel 2 _ rfl
      have q3 := hel 3 _ rfl
      have q4 := hel 4 _ rfl
      simp only [Nat.add_zero] at q0
      clear hel
      go_wp2_with fail
      have hb3 : Below w2.heap.size w2 (w2.alloc (.cells #[.int .i64 xr, .int .i64 xa, .int .i64 u, .int .i64 xc, .int .i64 xd] 54)) := (Below.refl _ _).alloc (Nat.le_refl _) _
      refine (hal _ _ _ (hst2.below hb3) (by simp; omega)).mono ?_
      rintro e w3 ⟨rfl, hst3, hb4⟩
      have hz4 := hb4.size
      simp at hz4
      have Y1 : w3.cell? ⟨w.heap.size + 1, 0, none⟩ = some (.int .i64 0) := (hb4.cell (p := ⟨w.heap.size + 1, 0, none⟩) (by simp)).trans ((hb3.cell (p := ⟨w.heap.size + 1, 0, none⟩) (by simp; omega)).trans y1)
      have Y2 : w3.cell? ⟨w.heap.size + 1, 1, none⟩ = some (.slice none 0 0) := (hb4.cell (p := ⟨w.heap.size + 1, 1, none⟩) (by simp)).trans ((hb3.cell (p := ⟨w.heap.size + 1, 1, none⟩) (by simp; omega)).trans y2)
      have Y3 : w3.frozen? ⟨w.heap.size + 1, 0, none⟩ = false := (hb4.frozen (p := ⟨w.heap.size + 1, 0, none⟩) (by simp)).trans ((hb3.frozen (p := ⟨w.heap.size + 1, 0, none⟩) (by simp; omega)).trans y3)
      have Y4 : w3.frozen? ⟨w.heap.size + 1, 1, none⟩ = false := (hb4.frozen (p := ⟨w.heap.size + 1, 1, none⟩) (by simp)).trans ((hb3.frozen (p := ⟨w.heap.size + 1, 1, none⟩) (by simp; omega)).trans y4)
      clear y1 y2 y3 y4 b0 b1 q0 q1 q2 q3 q4 hfr
      go_wp2_with fail
      refine (hfr2 _ _ _ hst3).mono ?_
      rintro e w4 ⟨rfl, hst4, hb5⟩
      have hz5 := hb5.size
      obtain ⟨B', A2, c2, he, hB', hBlt', b0, b1, ho2, _⟩ := hst4.read
      injection he with he
      injection he with he
      injection he with he
      subst he
      have X1 : w4.cell? ⟨w.heap.size + 1, 0, none⟩ = some (.int .i64 0) := (hb5.cell (p := ⟨w.heap.size + 1, 0, none⟩) (by simp)).trans Y1
      have X2 : w4.cell? ⟨w.heap.size + 1, 1, none⟩ = some (.slice none 0 0) := (hb5.cell (p := ⟨w.heap.size + 1, 1, none⟩) (by simp)).trans Y2
      have X3 : w4.frozen? ⟨w.heap.size + 1, 0, none⟩ = false := (hb5.frozen (p := ⟨w.heap.size + 1, 0, none⟩) (by simp)).trans Y3
      have X4 : w4.frozen? ⟨w.heap.size + 1, 1, none⟩ = false := (hb5.frozen (p := ⟨w.heap.size + 1, 1, none⟩) (by simp)).trans Y4
      clear Y1 Y2 Y3 Y4
      go_wp2
      refine bodyPost_ret (v := .tuple #[.agg #[.int .i64 cap, .slice A2 qs.length c2], .int .i64 r.1, .int .i64 r.2.1]) (by simp [results, Try.results35, go_sem, X1, X2]) rfl ⟨_, by rw [beq_iff_eq.1 HQ.out], ⟨_, rfl, ?_⟩, ?_⟩
      · exact Sl.of_own (ownsRow_setCell_below (ownsRow_setCell_below ho2 (by simp) _) (by simp) _)
      · exact ((((((hb0.trans (hb1.mono (by simp; omega))).trans (hb2.mono (by omega))).trans (hb3.mono (by omega))).trans (hb4.mono (by simp; omega))).trans (hb5.mono (by simp; omega))).setCell (by simp) _).setCell (by simp) _
    · simp [wset, encP] at hal
      generalize hnn : ps.length = n at *
      have HN := Lib.hid hnn
      clear hnn
      go_enter Try.func35, Try.ntmps35
      go_wp2_with fail
      refine hown.mono ?_
      rintro e w1 ⟨pv, rfl, hst, hb1⟩
      obtain ⟨hc1, hf1⟩ := bcell hb1
      have hz1 := hb1.size
      simp at hz1
      have z1 : w.heap.size < w1.heap.size := by omega
      have z2 : w.heap.size + 1 < w1.heap.size := by omega
      go_wp2_with fail
      refine (hhad _ _ _ hst).mono ?_
      rintro e w2 ⟨rfl, hb2⟩
      have hz2 := hb2.size
      have y1 : w2.cell? ⟨w.heap.size + 1, 0, none⟩ = some (.int .i64 0) := by rw [hb2.cell (p := ⟨w.heap.size + 1, 0, none⟩) (by simp; omega), hc1 _ _ (by simp)]; simp
      have y2 : w2.cell? ⟨w.heap.size + 1, 1, none⟩ = some (.slice none 0 0) := by rw [hb2.cell (p := ⟨w.heap.size + 1, 1, none⟩) (by simp; omega), hc1 _ _ (by simp)]; simp
      have y3 : w2.frozen? ⟨w.heap.size + 1, 0, none⟩ = false := by rw [hb2.frozen (p := ⟨w.heap.size + 1, 0, none⟩) (by simp; omega), hf1 _ _ (by simp)]; simp
      have y4 : w2.frozen? ⟨w.heap.size + 1, 1, none⟩ = false := by rw [hb2.frozen (p := ⟨w.heap.size + 1, 1, none⟩) (by simp; omega), hf1 _ _ (by simp)]; simp
      clear hc1 hf1
      have hst2 := hst.below hb2
      obtain ⟨B, A1, c1, rfl, hB, hBlt, b0, b1, ho1, hnB⟩ := hst2.read
      simp at hB
      rw [HN.out] at ho1 b1 hnB
      obtain ⟨g, c', he, hg1, hg2, _, _, hel, hfr⟩ := hel _ _ _ ho1
      injection he with he1 _ he2
      subst he1 he2
      have q0 := hel 0 _ rfl
      have q1 := hel 1 _ rfl
      have q2 := hel 2 _ rfl
      have q3 := hel 3 _ rfl
      have q4 := hel 4 _ rfl
      simp only [Nat.add_zero] at q0
      clear hel
      go_wp2_with fail
      have hb3 : Below w2.heap.size w2 (w2.alloc (.cells #[.int .i64 xr, .int .i64 xa, .int .i64 xb, .int .i64 u, .int .i64 xd] 54)) := (Below.refl _ _).alloc (Nat.le_refl _) _
      refine (hal _ _ _ (hst2.below hb3) (by simp; omega)).mono ?_
      rintro e w3 ⟨rfl, hst3, hb4⟩
      have hz4 := hb4.size
      simp at hz4
      have Y1 : w3.cell? ⟨w.heap.size + 1, 0, none⟩ = some (.int .i64 0) := (hb4.cell (p := ⟨w.heap.size + 1, 0, none⟩) (by simp)).trans ((hb3.cell (p := ⟨w.heap.size + 1, 0, none⟩) (by simp; omega)).trans y1)
      have Y2 : w3.cell? ⟨w.heap.size + 1, 1, none⟩ = some (.slice none 0 0) := (hb4.cell (p := ⟨w.heap.size + 1, 1, none⟩) (by simp)).trans ((hb3.cell (p := ⟨w.heap.size + 1, 1, none⟩) (by simp; omega)).trans y2)
      have Y3 : w3.frozen? ⟨w.heap.size + 1, 0, none⟩ = false := (hb4.frozen (p := ⟨w.heap.size + 1, 0, none⟩) (by simp)).trans ((hb3.frozen (p := ⟨w.heap.size + 1, 0, none⟩) (by simp; omega)).trans y3)
      have Y4 : w3.frozen? ⟨w.heap.size + 1, 1, none⟩ = false := (hb4.frozen (p := ⟨w.heap.size + 1, 1, none⟩) (by simp)).trans ((hb3.frozen (p := ⟨w.heap.size + 1, 1, none⟩) (by simp; omega)).trans y4)
      clear y1 y2 y3 y4 b0 b1 q0 q1 q2 q3 q4 hfr
      go_wp2_with fail
      refine (hfr2 _ _ _ hst3).mono ?_
      rintro e w4 ⟨rfl, hst4, hb5⟩
      have hz5 := hb5.size
      obtain ⟨B', A2, c2, he, hB', hBlt', b0, b1, ho2, _⟩ := hst4.read
      injection he with he
      injection he with he
      injection he with he
      subst he
      have X1 : w4.cell? ⟨w.heap.size + 1, 0, none⟩ = some (.int .i64 0) := (hb5.cell (p := ⟨w.heap.size + 1, 0, none⟩) (by simp)).trans Y1
      have X2 : w4.cell? ⟨w.heap.size + 1, 1, none⟩ = some (.slice none 0 0) := (hb5.cell (p := ⟨w.heap.size + 1, 1, none⟩) (by simp)).trans Y2
      have X3 : w4.frozen? ⟨w.heap.size + 1, 0, none⟩ = false := (hb5.frozen (p := ⟨w.heap.size + 1, 0, none⟩) (by simp)).trans Y3
      have X4 : w4.frozen? ⟨w.heap.size + 1, 1, none⟩ = false := (hb5.frozen (p := ⟨w.heap.size + 1, 1, none⟩) (by simp)).trans Y4
      clear Y1 Y2 Y3 Y4
      go_wp2
      refine bodyPost_ret (v := .tuple #[.agg #[.int .i64 cap, .slice A2 qs.length c2], .int .i64 r.1, .int .i64 r.2.1]) (by simp [results, Try.results35, go_sem, X1, X2]) rfl ⟨_, by rw [beq_iff_eq.1 HQ.out], ⟨_, rfl, ?_⟩, ?_⟩
      · exact Sl.of_own (ownsRow_setCell_below (ownsRow_setCell_below ho2 (by simp) _) (by simp) _)
      · exact ((((((hb0.trans (hb1.mono (by simp; omega))).trans (hb2.mono (by omega))).trans (hb3.mono (by omega))).trans (hb4.mono (by simp; omega))).trans (hb5.mono (by simp; omega))).setCell (by simp) _).setCell (by simp) _
    · simp [wset, encP] at hal
      generalize hnn : ps.length = n at *
      have HN := Lib.hid hnn
      clear hnn
      go_enter Try.func35, Try.ntmps35
      go_wp2_with fail
      refine hown.mono ?_
      rintro e w1 ⟨pv, rfl, hst, hb1⟩
      obtain ⟨hc1, hf1⟩ := bcell hb1
      have hz1 := hb1.size
      simp at hz1
      have z1 : w.heap.size < w1.heap.size := by omega
      have z2 : w.heap.size + 1 < w1.heap.size := by omega
      go_wp2_with fail
      refine (hhad _ _ _ hst).mono ?_
      rintro e w2 ⟨rfl, hb2⟩
      have hz2 := hb2.size
      have y1 : w2.cell? ⟨w.heap.size + 1, 0, none⟩ = some (.int .i64 0) := by rw [hb2.cell (p := ⟨w.heap.size + 1, 0, none⟩) (by simp; omega), hc1 _ _ (by simp)]; simp
      have y2 : w2.cell? ⟨w.heap.size + 1, 1, none⟩ = some (.slice none 0 0) := by rw [hb2.cell (p := ⟨w.heap.size + 1, 1, none⟩) (by simp; omega), hc1 _ _ (by simp)]; simp
      have y3 : w2.frozen? ⟨w.heap.size + 1, 0, none⟩ = false := by rw [hb2.frozen (p := ⟨w.heap.size + 1, 0, none⟩) (by simp; omega), hf1 _ _ (by simp)]; simp
      have y4 : w2.frozen? ⟨w.heap.size + 1, 1, none⟩ = false := by rw [hb2.frozen (p := ⟨w.heap.size + 1, 1, none⟩) (by simp; omega), hf1 _ _ (by simp)]; simp
      clear hc1 hf1
      have hst2 := hst.below hb2
      obtain ⟨B, A1, c1, rfl, hB, hBlt, b0, b1, ho1, hnB⟩ := hst2.read
      simp at hB
      rw [HN.out] at ho1 b1 hnB
      obtain ⟨g, c', he, hg1, hg2, _, _, hel, hfr⟩ := hel _ _ _ ho1
      injection he with he1 _ he2
      subst he1 he2
      have q0 := hel 0 _ rfl
      have q1 := hel 1 _ rfl
      have q2 := hel 2 _ rfl
      have q3 := hel 3 _ rfl
      have q4 := hel 4 _ rfl
      simp only [Nat.add_zero] at q0
      clear hel
      go_wp2_with fail
      have hb3 : Below w2.heap.size w2 (w2.alloc (.cells #[.int .i64 xr, .int .i64 xa, .int .i64 xb, .int .i64 xc, .int .i64 u] 54)) := (Below.refl _ _).alloc (Nat.le_refl _) _
      refine (hal _ _ _ (hst2.below hb3) (by simp; omega)).mono ?_
      rintro e w3 ⟨rfl, hst3, hb4⟩
      have hz4 := hb4.size
      simp at hz4
      have Y1 : w3.cell? ⟨w.heap.size + 1, 0, none⟩ = some (.int .i64 0) := (hb4.cell (p := ⟨w.heap.size + 1, 0, none⟩) (by simp)).trans ((hb3.cell (p := ⟨w.heap.size + 1, 0, none⟩) (by simp; omega)).trans y1)
      have Y2 : w3.cell? ⟨w.heap.size + 1, 1, none⟩ = some (.slice none 0 0) := (hb4.cell (p := ⟨w.heap.size + 1, 1, none⟩) (by simp)).trans ((hb3.cell (p := ⟨w.heap.size + 1, 1, none⟩) (by simp; omega)).trans y2)
      have Y3 : w3.frozen? ⟨w.heap.size + 1, 0, none⟩ = false := (hb4.frozen (p := ⟨w.heap.size + 1, 0, none⟩) (by simp)).trans ((hb3.frozen (p := ⟨w.heap.size + 1, 0, none⟩) (by simp; omega)).trans y3)
      have Y4 : w3.frozen? ⟨w.heap.size + 1, 1, none⟩ = false := (hb4.frozen (p := ⟨w.heap.size + 1, 1, none⟩) (by simp)).trans ((hb3.frozen (p := ⟨w.heap.size + 1, 1, none⟩) (by simp; omega)).trans y4)
      clear y1 y2 y3 y4 b0 b1 q0 q1 q2 q3 q4 hfr
      go_wp2_with fail
      refine (hfr2 _ _ _ hst3).mono ?_
      rintro e w4 ⟨rfl, hst4, hb5⟩
      have hz5 := hb5.size
      obtain ⟨B', A2, c2, he, hB', hBlt', b0, b1, ho2, _⟩ := hst4.read
      injection he with he
      injection he with he
      injection he with he
      subst he
      have X1 : w4.cell? ⟨w.heap.size + 1, 0, none⟩ = some (.int .i64 0) := (hb5.cell (p := ⟨w.heap.size + 1, 0, none⟩) (by simp)).trans Y1
      have X2 : w4.cell? ⟨w.heap.size + 1, 1, none⟩ = some (.slice none 0 0) := (hb5.cell (p := ⟨w.heap.size + 1, 1, none⟩) (by simp)).trans Y2
      have X3 : w4.frozen? ⟨w.heap.size + 1, 0, none⟩ = false := (hb5.frozen (p := ⟨w.heap.size + 1, 0, none⟩) (by simp)).trans Y3
      have X4 : w4.frozen? ⟨w.heap.size + 1, 1, none⟩ = false := (hb5.frozen (p := ⟨w.heap.size + 1, 1, none⟩) (by simp)).trans Y4
      clear Y1 Y2 Y3 Y4
      go_wp2
      refine bodyPost_ret (v := .tuple #[.agg #[.int .i64 cap, .slice A2 qs.length c2], .int .i64 r.1, .int .i64 r.2.1]) (by simp [results, Try.results35, go_sem, X1, X2]) rfl ⟨_, by rw [beq_iff_eq.1 HQ.out], ⟨_, rfl, ?_⟩, ?_⟩
      · exact Sl.of_own (ownsRow_setCell_below (ownsRow_setCell_below ho2 (by simp) _) (by simp) _)
      · exact ((((((hb0.trans (hb1.mono (by simp; omega))).trans (hb2.mono (by omega))).trans (hb3.mono (by omega))).trans (hb4.mono (by simp; omega))).trans (hb5.mono (by simp; omega))).setCell (by simp) _).setCell (by simp) _
theorem Write_any (v : Value) (cap : Int) (ps : List Pg) (p i u : Int) (w : World) (hv : StV w v cap ps) (hn : ps.length ≤ 1000) :
    Calls Try.prog 35 #[v, .int .i64 p, .int .i64 i, .int .i64 u] w fun e w' => ∃ v', e = .returned (.tuple #[v', .int .i64 (writeL cap ps p i u).1, .int .i64 (writeL cap ps p i u).2.1]) ∧ StV w' v' cap (writeL cap ps p i u).2.2 ∧ Below w.heap.size w w' := by
  by_cases h : hadL cap ps p = 0 ∧ 0 ≤ i ∧ i < 4
  · by_cases h1 : (pgAt ps p).r = 1
    · exact Write_in v cap ps p i u w hv hn h.1 h.2.1 h.2.2 h1
    · exact Write_new v cap ps p i u w hv hn h.1 h.2.1 h.2.2 h1
  · exact Write_not v cap ps p i u w hv hn h

end Go.Proofs.Ytoogobenjhmjjaa
