/- foliateref16: Share, Free. -/
import Derived.Test.YtelfkopoppfaaaaRpWith
namespace Go.Proofs.Ytelfkopoppfaaaa
open Go Go.RowKit
set_option linter.unusedVariables false
attribute [local go_sem ↓] Go.wp_at_zero Go.wp_at_succ

/-- What a reference's call hands back: a store, and an error. -/
def RefRes (cap : Int) (r : Int × List Pg) (w : World) (e : Ending) (w' : World) : Prop :=
  ∃ v', e = .returned (.tuple #[v', .int .i64 r.1]) ∧ (StV w' v' cap r.2 ∧ (r.1 = 0 → StO w' w.heap.size v' cap r.2)) ∧ Below w.heap.size w w'

theorem had_ref {cap : Int} {ps : List Pg} {p : Int} (hm : mayP cap ps = true) : hadL cap ps p = if hadR ps p = true then 0 else 11 := by
  unfold hadL
  rw [if_neg (by rw [hm]; simp)]
  by_cases h : p < 0 ∨ (ps.length : Int) ≤ p ∨ (pgAt ps p).r = 0
  · rw [if_pos h, if_neg]
    simp [hadR]
    omega
  · rw [if_neg h, if_pos]
    simp only [not_or] at h
    obtain ⟨k, rfl⟩ := Int.eq_ofNat_of_zero_le (Int.not_lt.1 h.1)
    have hk : k < ps.length := by omega
    have := (odd_bounds (may_odd hm k hk)).1
    have h3 := h.2.2
    rw [pgAt_get hk] at h3
    simp [hadR, pgAt_get hk]
    omega
theorem hadR_ok {ps : List Pg} {p : Int} (h : hadR ps p = true) : ∃ k : Nat, p = k ∧ ∃ hk : k < ps.length, 0 < ps[k].r := by
  simp [hadR] at h
  obtain ⟨k, rfl⟩ := Int.eq_ofNat_of_zero_le h.1
  have hk : k < ps.length := by omega
  rw [pgAt_get hk] at h
  exact ⟨k, rfl, hk, h.2.2⟩

set_option maxHeartbeats 4000000 in
theorem RShare_any (v : Value) (cap p : Int) (ps : List Pg) (w : World) (hv : StV w v cap ps) (hn : ps.length ≤ 1000) :
    Calls Try.prog 19 #[v, .int .i64 p] w (RefRes cap (shareL cap ps p) w) := by
  obtain ⟨A, c, rfl, hv⟩ := hv.form
  have hb0 : Below w.heap.size w ((w.alloc (.cells #[.int .i64 cap, .slice A ps.length c] 25)).alloc (.cells #[.int .i64 0, .slice none 0 0] 25)) := ((Below.refl _ w).alloc (Nat.le_refl _) _).alloc (by simp) _
  have hmay := fun sv W h => rmay_any cap sv ps W h
  have hhad := fun v W h => rhad_any v cap p ps W h
  cases hm : mayP cap ps with
  | false =>
    rw [show shareL cap ps p = (1, ps) from by simp [shareL, hadL, hm]]
    rw [hm] at hmay
    clear hm
    go_enter Try.func19, Try.ntmps19
    go_wp2_with fail
    refine (hmay _ _ (hv.sl.below hb0)).mono ?_
    rintro e w1 ⟨rfl, hb1⟩
    have hY := hb0.trans (hb1.mono (by simp; try omega))
    have kA0 : Blk w1 w.heap.size 25 #[.int .i64 cap, .slice A ps.length c] := ((Blk.new_ w _ _ _ rfl).alloc _).keep hb1
    have kA1 : Blk w1 (w.heap.size + 1) 25 #[.int .i64 0, .slice none 0 0] := (Blk.new_ _ _ _ _ (by simp)).keep hb1
    have la := kA0.lt
    have lb := kA1.lt
    have s0 : w1.cell? ⟨w.heap.size, 0, none⟩ = some (.int .i64 cap) := by rw [kA0.cell]; rfl
    have sf0 : w1.frozen? ⟨w.heap.size, 0, none⟩ = false := kA0.free 0
    have s1 : w1.cell? ⟨w.heap.size, 1, none⟩ = some (.slice A ps.length c) := by rw [kA0.cell]; rfl
    have sf1 : w1.frozen? ⟨w.heap.size, 1, none⟩ = false := kA0.free 1
    have t0 : w1.cell? ⟨w.heap.size + 1, 0, none⟩ = some (.int .i64 0) := by rw [kA1.cell]; rfl
    have tf0 : w1.frozen? ⟨w.heap.size + 1, 0, none⟩ = false := kA1.free 0
    have t1 : w1.cell? ⟨w.heap.size + 1, 1, none⟩ = some (.slice none 0 0) := by rw [kA1.cell]; rfl
    have tf1 : w1.frozen? ⟨w.heap.size + 1, 1, none⟩ = false := kA1.free 1
    go_wp2
    refine bodyPost_ret (v := .tuple #[.agg #[.int .i64 cap, .slice A ps.length c], .int .i64 1]) (by simp [results, Try.results19, go_sem, t0, t1]) rfl ⟨_, rfl, ?_, ?_⟩
    · exact ⟨hv.keep ((hY.setCell (p := ⟨w.heap.size + 1, 0, none⟩) (by simp) _).setCell (p := ⟨w.heap.size + 1, 1, none⟩) (by simp) _), fun h => by simp at h⟩
    · exact (hY.setCell (p := ⟨w.heap.size + 1, 0, none⟩) (by simp) _).setCell (p := ⟨w.heap.size + 1, 1, none⟩) (by simp) _
  | true =>
    rw [hm] at hmay
    have hhl := had_ref (p := p) hm
    cases hr : hadR ps p with
    | false =>
      rw [hr] at hhad hhl
      rw [show shareL cap ps p = (11, ps) from by simp [shareL, hhl]]
      clear hm hr hhl
      go_enter Try.func19, Try.ntmps19
      go_wp2_with fail
      refine (hmay _ _ (hv.sl.below hb0)).mono ?_
      rintro e w1 ⟨rfl, hb1⟩
      have hY := hb0.trans (hb1.mono (by simp; try omega))
      have kA0 : Blk w1 w.heap.size 25 #[.int .i64 cap, .slice A ps.length c] := ((Blk.new_ w _ _ _ rfl).alloc _).keep hb1
      have kA1 : Blk w1 (w.heap.size + 1) 25 #[.int .i64 0, .slice none 0 0] := (Blk.new_ _ _ _ _ (by simp)).keep hb1
      have la := kA0.lt
      have lb := kA1.lt
      have s0 : w1.cell? ⟨w.heap.size, 0, none⟩ = some (.int .i64 cap) := by rw [kA0.cell]; rfl
      have sf0 : w1.frozen? ⟨w.heap.size, 0, none⟩ = false := kA0.free 0
      have s1 : w1.cell? ⟨w.heap.size, 1, none⟩ = some (.slice A ps.length c) := by rw [kA0.cell]; rfl
      have sf1 : w1.frozen? ⟨w.heap.size, 1, none⟩ = false := kA0.free 1
      have t0 : w1.cell? ⟨w.heap.size + 1, 0, none⟩ = some (.int .i64 0) := by rw [kA1.cell]; rfl
      have tf0 : w1.frozen? ⟨w.heap.size + 1, 0, none⟩ = false := kA1.free 0
      have t1 : w1.cell? ⟨w.heap.size + 1, 1, none⟩ = some (.slice none 0 0) := by rw [kA1.cell]; rfl
      have tf1 : w1.frozen? ⟨w.heap.size + 1, 1, none⟩ = false := kA1.free 1
      go_wp2_with fail
      refine (hhad _ _ (hv.keep hY)).mono ?_
      rintro e w2 ⟨rfl, hb2⟩
      replace hY := hY.trans (hb2.mono hY.size)
      replace kA0 := kA0.keep hb2
      replace kA1 := kA1.keep hb2
      clear la lb s0 s1 sf0 sf1 t0 t1 tf0 tf1
      have la := kA0.lt
      have lb := kA1.lt
      have s0 : w2.cell? ⟨w.heap.size, 0, none⟩ = some (.int .i64 cap) := by rw [kA0.cell]; rfl
      have sf0 : w2.frozen? ⟨w.heap.size, 0, none⟩ = false := kA0.free 0
      have s1 : w2.cell? ⟨w.heap.size, 1, none⟩ = some (.slice A ps.length c) := by rw [kA0.cell]; rfl
      have sf1 : w2.frozen? ⟨w.heap.size, 1, none⟩ = false := kA0.free 1
      have t0 : w2.cell? ⟨w.heap.size + 1, 0, none⟩ = some (.int .i64 0) := by rw [kA1.cell]; rfl
      have tf0 : w2.frozen? ⟨w.heap.size + 1, 0, none⟩ = false := kA1.free 0
      have t1 : w2.cell? ⟨w.heap.size + 1, 1, none⟩ = some (.slice none 0 0) := by rw [kA1.cell]; rfl
      have tf1 : w2.frozen? ⟨w.heap.size + 1, 1, none⟩ = false := kA1.free 1
      go_wp2
      refine bodyPost_ret (v := .tuple #[.agg #[.int .i64 cap, .slice A ps.length c], .int .i64 11]) (by simp [results, Try.results19, go_sem, t0, t1]) rfl ⟨_, rfl, ?_, ?_⟩
      · exact ⟨hv.keep ((hY.setCell (p := ⟨w.heap.size + 1, 0, none⟩) (by simp) _).setCell (p := ⟨w.heap.size + 1, 1, none⟩) (by simp) _), fun h => by simp at h⟩
      · exact (hY.setCell (p := ⟨w.heap.size + 1, 0, none⟩) (by simp) _).setCell (p := ⟨w.heap.size + 1, 1, none⟩) (by simp) _
    | true =>
      obtain ⟨k, rfl, hk, hr0⟩ := hadR_ok hr
      rw [hr] at hhad hhl
      have hr1 := (odd_bounds (may_odd hm k hk)).2
      have hk0 : (0 : Int) ≤ (k : Int) := by omega
      have hk1 : (k : Int) < (ps.length : Int) := by omega
      have hwith := fun v y W h => with_any v cap k y ps W h hk hn
      obtain ⟨b, o, rfl, hlt, hel⟩ := Sl.pos encP encP_len hv.sl (by omega)
      have hel := fun W hW => hel W hW k hk
      simp only [encP] at hwith
      rw [show shareL cap ps k = if ps[k].r = 1000 then (8, ps) else (0, ps.set k { ps[k] with r := ps[k].r + 1 }) from by simp [shareL, hhl, pgAt_get hk]]
      generalize ps[k] = x at *
      clear hm hr hhl hk hn
      by_cases h3 : x.r = 1000
      · rw [if_pos h3]
        have h3' : (x.r == 1000) = true := by simpa using h3
        clear h3
        go_enter Try.func19, Try.ntmps19
        go_wp2_with fail
        refine (hmay _ _ (hv.sl.below hb0)).mono ?_
        rintro e w1 ⟨rfl, hb1⟩
        have hY := hb0.trans (hb1.mono (by simp; try omega))
        have kA0 : Blk w1 w.heap.size 25 #[.int .i64 cap, .slice (some ⟨b, o, none⟩) ps.length c] := ((Blk.new_ w _ _ _ rfl).alloc _).keep hb1
        have kA1 : Blk w1 (w.heap.size + 1) 25 #[.int .i64 0, .slice none 0 0] := (Blk.new_ _ _ _ _ (by simp)).keep hb1
        have la := kA0.lt
        have lb := kA1.lt
        have s0 : w1.cell? ⟨w.heap.size, 0, none⟩ = some (.int .i64 cap) := by rw [kA0.cell]; rfl
        have sf0 : w1.frozen? ⟨w.heap.size, 0, none⟩ = false := kA0.free 0
        have s1 : w1.cell? ⟨w.heap.size, 1, none⟩ = some (.slice (some ⟨b, o, none⟩) ps.length c) := by rw [kA0.cell]; rfl
        have sf1 : w1.frozen? ⟨w.heap.size, 1, none⟩ = false := kA0.free 1
        have t0 : w1.cell? ⟨w.heap.size + 1, 0, none⟩ = some (.int .i64 0) := by rw [kA1.cell]; rfl
        have tf0 : w1.frozen? ⟨w.heap.size + 1, 0, none⟩ = false := kA1.free 0
        have t1 : w1.cell? ⟨w.heap.size + 1, 1, none⟩ = some (.slice none 0 0) := by rw [kA1.cell]; rfl
        have tf1 : w1.frozen? ⟨w.heap.size + 1, 1, none⟩ = false := kA1.free 1
        go_wp2_with fail
        refine (hhad _ _ (hv.keep hY)).mono ?_
        rintro e w2 ⟨rfl, hb2⟩
        replace hY := hY.trans (hb2.mono hY.size)
        replace kA0 := kA0.keep hb2
        replace kA1 := kA1.keep hb2
        clear la lb s0 s1 sf0 sf1 t0 t1 tf0 tf1
        have la := kA0.lt
        have lb := kA1.lt
        have s0 : w2.cell? ⟨w.heap.size, 0, none⟩ = some (.int .i64 cap) := by rw [kA0.cell]; rfl
        have sf0 : w2.frozen? ⟨w.heap.size, 0, none⟩ = false := kA0.free 0
        have s1 : w2.cell? ⟨w.heap.size, 1, none⟩ = some (.slice (some ⟨b, o, none⟩) ps.length c) := by rw [kA0.cell]; rfl
        have sf1 : w2.frozen? ⟨w.heap.size, 1, none⟩ = false := kA0.free 1
        have t0 : w2.cell? ⟨w.heap.size + 1, 0, none⟩ = some (.int .i64 0) := by rw [kA1.cell]; rfl
        have tf0 : w2.frozen? ⟨w.heap.size + 1, 0, none⟩ = false := kA1.free 0
        have t1 : w2.cell? ⟨w.heap.size + 1, 1, none⟩ = some (.slice none 0 0) := by rw [kA1.cell]; rfl
        have tf1 : w2.frozen? ⟨w.heap.size + 1, 1, none⟩ = false := kA1.free 1
        have e0 := hel w2 hY 0 _ rfl
        have e1 := hel w2 hY 1 _ rfl
        have e2 := hel w2 hY 2 _ rfl
        have e3 := hel w2 hY 3 _ rfl
        have e4 := hel w2 hY 4 _ rfl
        simp only [Nat.add_zero] at e0
        have hlw : b < w2.heap.size := Nat.lt_of_lt_of_le hlt hY.size
        clear hel
        go_wp2
        refine bodyPost_ret (v := .tuple #[.agg #[.int .i64 cap, .slice (some ⟨b, o, none⟩) ps.length c], .int .i64 8]) (by simp [results, Try.results19, go_sem, t0, t1, lb]) rfl ⟨_, rfl, ?_, ?_⟩
        · exact ⟨hv.keep (((hY.setCell (p := ⟨w.heap.size + 1, 0, none⟩) (by simp) _).setCell (p := ⟨w.heap.size + 1, 1, none⟩) (by simp) _).alloc (by simp only [World.size_setCell]; exact hY.size) _), fun h => by simp at h⟩
        · exact ((hY.setCell (p := ⟨w.heap.size + 1, 0, none⟩) (by simp) _).setCell (p := ⟨w.heap.size + 1, 1, none⟩) (by simp) _).alloc (by simp only [World.size_setCell]; exact hY.size) _
      · rw [if_neg h3]
        have h3' : (x.r == 1000) = false := by simpa using h3
        clear h3
        go_enter Try.func19, Try.ntmps19
        go_wp2_with fail
        refine (hmay _ _ (hv.sl.below hb0)).mono ?_
        rintro e w1 ⟨rfl, hb1⟩
        have hY := hb0.trans (hb1.mono (by simp; try omega))
        have kA0 : Blk w1 w.heap.size 25 #[.int .i64 cap, .slice (some ⟨b, o, none⟩) ps.length c] := ((Blk.new_ w _ _ _ rfl).alloc _).keep hb1
        have kA1 : Blk w1 (w.heap.size + 1) 25 #[.int .i64 0, .slice none 0 0] := (Blk.new_ _ _ _ _ (by simp)).keep hb1
        have la := kA0.lt
        have lb := kA1.lt
        have s0 : w1.cell? ⟨w.heap.size, 0, none⟩ = some (.int .i64 cap) := by rw [kA0.cell]; rfl
        have sf0 : w1.frozen? ⟨w.heap.size, 0, none⟩ = false := kA0.free 0
        have s1 : w1.cell? ⟨w.heap.size, 1, none⟩ = some (.slice (some ⟨b, o, none⟩) ps.length c) := by rw [kA0.cell]; rfl
        have sf1 : w1.frozen? ⟨w.heap.size, 1, none⟩ = false := kA0.free 1
        have t0 : w1.cell? ⟨w.heap.size + 1, 0, none⟩ = some (.int .i64 0) := by rw [kA1.cell]; rfl
        have tf0 : w1.frozen? ⟨w.heap.size + 1, 0, none⟩ = false := kA1.free 0
        have t1 : w1.cell? ⟨w.heap.size + 1, 1, none⟩ = some (.slice none 0 0) := by rw [kA1.cell]; rfl
        have tf1 : w1.frozen? ⟨w.heap.size + 1, 1, none⟩ = false := kA1.free 1
        go_wp2_with fail
        refine (hhad _ _ (hv.keep hY)).mono ?_
        rintro e w2 ⟨rfl, hb2⟩
        replace hY := hY.trans (hb2.mono hY.size)
        replace kA0 := kA0.keep hb2
        replace kA1 := kA1.keep hb2
        clear la lb s0 s1 sf0 sf1 t0 t1 tf0 tf1
        have la := kA0.lt
        have lb := kA1.lt
        have s0 : w2.cell? ⟨w.heap.size, 0, none⟩ = some (.int .i64 cap) := by rw [kA0.cell]; rfl
        have sf0 : w2.frozen? ⟨w.heap.size, 0, none⟩ = false := kA0.free 0
        have s1 : w2.cell? ⟨w.heap.size, 1, none⟩ = some (.slice (some ⟨b, o, none⟩) ps.length c) := by rw [kA0.cell]; rfl
        have sf1 : w2.frozen? ⟨w.heap.size, 1, none⟩ = false := kA0.free 1
        have t0 : w2.cell? ⟨w.heap.size + 1, 0, none⟩ = some (.int .i64 0) := by rw [kA1.cell]; rfl
        have tf0 : w2.frozen? ⟨w.heap.size + 1, 0, none⟩ = false := kA1.free 0
        have t1 : w2.cell? ⟨w.heap.size + 1, 1, none⟩ = some (.slice none 0 0) := by rw [kA1.cell]; rfl
        have tf1 : w2.frozen? ⟨w.heap.size + 1, 1, none⟩ = false := kA1.free 1
        have e0 := hel w2 hY 0 _ rfl
        have e1 := hel w2 hY 1 _ rfl
        have e2 := hel w2 hY 2 _ rfl
        have e3 := hel w2 hY 3 _ rfl
        have e4 := hel w2 hY 4 _ rfl
        simp only [Nat.add_zero] at e0
        have hlw : b < w2.heap.size := Nat.lt_of_lt_of_le hlt hY.size
        clear hel
        go_wp2_with fail
        have hA1 := (Below.refl w2.heap.size w2).alloc (Nat.le_refl _) (.cells #[.int .i64 (x.r + 1), .int .i64 x.a, .int .i64 x.b, .int .i64 x.c, .int .i64 x.d] 37)
        refine (hwith _ { x with r := x.r + 1 } _ (((hv.keep hY).keep hA1))).mono ?_
        rintro e w3 ⟨v2, rfl, hst2, hb3⟩
        have hY2 := (hY.trans (hA1.mono hY.size)).trans (hb3.mono (hY.trans (hA1.mono hY.size)).size)
        have kB1 := (kA1.keep hA1).keep hb3
        obtain ⟨sv2, rfl, hrow2⟩ := hst2
        rw [List.length_set] at hrow2
        obtain ⟨A2, c2, rfl, _, _⟩ := (Sl.of_own hrow2).form
        clear kA0 kA1 s0 s1 sf0 sf1 t0 t1 tf0 tf1
        have t0 : w3.cell? ⟨w.heap.size + 1, 0, none⟩ = some (.int .i64 0) := by rw [kB1.cell]; rfl
        have tf0 : w3.frozen? ⟨w.heap.size + 1, 0, none⟩ = false := kB1.free 0
        have t1 : w3.cell? ⟨w.heap.size + 1, 1, none⟩ = some (.slice none 0 0) := by rw [kB1.cell]; rfl
        have tf1 : w3.frozen? ⟨w.heap.size + 1, 1, none⟩ = false := kB1.free 1
        go_wp2
        refine bodyPost_ret (v := .tuple #[.agg #[.int .i64 cap, .slice A2 ps.length c2], .int .i64 0]) (by simp [results, Try.results19, go_sem, t0, t1]) rfl ⟨_, rfl, ?_, ?_⟩
        · have hlen : (ps.set k ({ x with r := x.r + 1 } : Pg)).length = ps.length := List.length_set
          have hzz := hY.size
          have hzz2 := hb3.size
          simp only [World.size_alloc] at hzz2
          have hfin := ownsRow_mono (ownsRow_setCell_below (ownsRow_setCell_below hrow2 (a := ⟨w.heap.size + 1, 0, none⟩) (by simp; omega) (.int .i64 cap)) (a := ⟨w.heap.size + 1, 1, none⟩) (by simp; omega) (.slice A2 ps.length c2)) (show w.heap.size ≤ _ by simp; omega)
          have hfin2 : StO _ w.heap.size (.agg #[.int .i64 cap, .slice A2 ps.length c2]) cap (ps.set k { x with r := x.r + 1 }) := ⟨_, rfl, by rw [hlen]; exact hfin⟩
          exact ⟨hfin2.to, fun _ => hfin2⟩
        · exact (hY2.setCell (p := ⟨w.heap.size + 1, 0, none⟩) (by simp) _).setCell (p := ⟨w.heap.size + 1, 1, none⟩) (by simp) _

set_option maxHeartbeats 4000000 in
theorem RFree_any (v : Value) (cap p : Int) (ps : List Pg) (w : World) (hv : StV w v cap ps) (hn : ps.length ≤ 1000) :
    Calls Try.prog 21 #[v, .int .i64 p] w (RefRes cap (freeX cap ps p) w) := by
  obtain ⟨A, c, rfl, hv⟩ := hv.form
  have hb0 : Below w.heap.size w ((w.alloc (.cells #[.int .i64 cap, .slice A ps.length c] 25)).alloc (.cells #[.int .i64 0, .slice none 0 0] 25)) := ((Below.refl _ w).alloc (Nat.le_refl _) _).alloc (by simp) _
  have hmay := fun sv W h => rmay_any cap sv ps W h
  have hhad := fun v W h => rhad_any v cap p ps W h
  cases hm : mayP cap ps with
  | false =>
    rw [show freeX cap ps p = (1, ps) from by simp [freeX, hadL, hm]]
    rw [hm] at hmay
    clear hm
    go_enter Try.func21, Try.ntmps21
    go_wp2_with fail
    refine (hmay _ _ (hv.sl.below hb0)).mono ?_
    rintro e w1 ⟨rfl, hb1⟩
    have hY := hb0.trans (hb1.mono (by simp; try omega))
    have kA0 : Blk w1 w.heap.size 25 #[.int .i64 cap, .slice A ps.length c] := ((Blk.new_ w _ _ _ rfl).alloc _).keep hb1
    have kA1 : Blk w1 (w.heap.size + 1) 25 #[.int .i64 0, .slice none 0 0] := (Blk.new_ _ _ _ _ (by simp)).keep hb1
    have la := kA0.lt
    have lb := kA1.lt
    have s0 : w1.cell? ⟨w.heap.size, 0, none⟩ = some (.int .i64 cap) := by rw [kA0.cell]; rfl
    have sf0 : w1.frozen? ⟨w.heap.size, 0, none⟩ = false := kA0.free 0
    have s1 : w1.cell? ⟨w.heap.size, 1, none⟩ = some (.slice A ps.length c) := by rw [kA0.cell]; rfl
    have sf1 : w1.frozen? ⟨w.heap.size, 1, none⟩ = false := kA0.free 1
    have t0 : w1.cell? ⟨w.heap.size + 1, 0, none⟩ = some (.int .i64 0) := by rw [kA1.cell]; rfl
    have tf0 : w1.frozen? ⟨w.heap.size + 1, 0, none⟩ = false := kA1.free 0
    have t1 : w1.cell? ⟨w.heap.size + 1, 1, none⟩ = some (.slice none 0 0) := by rw [kA1.cell]; rfl
    have tf1 : w1.frozen? ⟨w.heap.size + 1, 1, none⟩ = false := kA1.free 1
    go_wp2
    refine bodyPost_ret (v := .tuple #[.agg #[.int .i64 cap, .slice A ps.length c], .int .i64 1]) (by simp [results, Try.results21, go_sem, t0, t1]) rfl ⟨_, rfl, ?_, ?_⟩
    · exact ⟨hv.keep ((hY.setCell (p := ⟨w.heap.size + 1, 0, none⟩) (by simp) _).setCell (p := ⟨w.heap.size + 1, 1, none⟩) (by simp) _), fun h => by simp at h⟩
    · exact (hY.setCell (p := ⟨w.heap.size + 1, 0, none⟩) (by simp) _).setCell (p := ⟨w.heap.size + 1, 1, none⟩) (by simp) _
  | true =>
    rw [hm] at hmay
    have hhl := had_ref (p := p) hm
    cases hr : hadR ps p with
    | false =>
      rw [hr] at hhad hhl
      rw [show freeX cap ps p = (11, ps) from by simp [freeX, hhl]]
      clear hm hr hhl
      go_enter Try.func21, Try.ntmps21
      go_wp2_with fail
      refine (hmay _ _ (hv.sl.below hb0)).mono ?_
      rintro e w1 ⟨rfl, hb1⟩
      have hY := hb0.trans (hb1.mono (by simp; try omega))
      have kA0 : Blk w1 w.heap.size 25 #[.int .i64 cap, .slice A ps.length c] := ((Blk.new_ w _ _ _ rfl).alloc _).keep hb1
      have kA1 : Blk w1 (w.heap.size + 1) 25 #[.int .i64 0, .slice none 0 0] := (Blk.new_ _ _ _ _ (by simp)).keep hb1
      have la := kA0.lt
      have lb := kA1.lt
      have s0 : w1.cell? ⟨w.heap.size, 0, none⟩ = some (.int .i64 cap) := by rw [kA0.cell]; rfl
      have sf0 : w1.frozen? ⟨w.heap.size, 0, none⟩ = false := kA0.free 0
      have s1 : w1.cell? ⟨w.heap.size, 1, none⟩ = some (.slice A ps.length c) := by rw [kA0.cell]; rfl
      have sf1 : w1.frozen? ⟨w.heap.size, 1, none⟩ = false := kA0.free 1
      have t0 : w1.cell? ⟨w.heap.size + 1, 0, none⟩ = some (.int .i64 0) := by rw [kA1.cell]; rfl
      have tf0 : w1.frozen? ⟨w.heap.size + 1, 0, none⟩ = false := kA1.free 0
      have t1 : w1.cell? ⟨w.heap.size + 1, 1, none⟩ = some (.slice none 0 0) := by rw [kA1.cell]; rfl
      have tf1 : w1.frozen? ⟨w.heap.size + 1, 1, none⟩ = false := kA1.free 1
      go_wp2_with fail
      refine (hhad _ _ (hv.keep hY)).mono ?_
      rintro e w2 ⟨rfl, hb2⟩
      replace hY := hY.trans (hb2.mono hY.size)
      replace kA0 := kA0.keep hb2
      replace kA1 := kA1.keep hb2
      clear la lb s0 s1 sf0 sf1 t0 t1 tf0 tf1
      have la := kA0.lt
      have lb := kA1.lt
      have s0 : w2.cell? ⟨w.heap.size, 0, none⟩ = some (.int .i64 cap) := by rw [kA0.cell]; rfl
      have sf0 : w2.frozen? ⟨w.heap.size, 0, none⟩ = false := kA0.free 0
      have s1 : w2.cell? ⟨w.heap.size, 1, none⟩ = some (.slice A ps.length c) := by rw [kA0.cell]; rfl
      have sf1 : w2.frozen? ⟨w.heap.size, 1, none⟩ = false := kA0.free 1
      have t0 : w2.cell? ⟨w.heap.size + 1, 0, none⟩ = some (.int .i64 0) := by rw [kA1.cell]; rfl
      have tf0 : w2.frozen? ⟨w.heap.size + 1, 0, none⟩ = false := kA1.free 0
      have t1 : w2.cell? ⟨w.heap.size + 1, 1, none⟩ = some (.slice none 0 0) := by rw [kA1.cell]; rfl
      have tf1 : w2.frozen? ⟨w.heap.size + 1, 1, none⟩ = false := kA1.free 1
      go_wp2
      refine bodyPost_ret (v := .tuple #[.agg #[.int .i64 cap, .slice A ps.length c], .int .i64 11]) (by simp [results, Try.results21, go_sem, t0, t1]) rfl ⟨_, rfl, ?_, ?_⟩
      · exact ⟨hv.keep ((hY.setCell (p := ⟨w.heap.size + 1, 0, none⟩) (by simp) _).setCell (p := ⟨w.heap.size + 1, 1, none⟩) (by simp) _), fun h => by simp at h⟩
      · exact (hY.setCell (p := ⟨w.heap.size + 1, 0, none⟩) (by simp) _).setCell (p := ⟨w.heap.size + 1, 1, none⟩) (by simp) _
    | true =>
      obtain ⟨k, rfl, hk, hr0⟩ := hadR_ok hr
      rw [hr] at hhad hhl
      have hr1 := (odd_bounds (may_odd hm k hk)).2
      have hk0 : (0 : Int) ≤ (k : Int) := by omega
      have hk1 : (k : Int) < (ps.length : Int) := by omega
      have hwith := fun v y W h => with_any v cap k y ps W h hk hn
      obtain ⟨b, o, rfl, hlt, hel⟩ := Sl.pos encP encP_len hv.sl (by omega)
      have hel := fun W hW => hel W hW k hk
      simp only [encP] at hwith
      rw [show freeX cap ps k = if ps[k].r - 1 = 0 then (0, ps.set k ⟨0, 0, 0, 0, 0⟩) else (0, ps.set k { ps[k] with r := ps[k].r - 1 }) from by
        simp only [freeX, hhl, if_true, freeL, Int.toNat_natCast, pgAt_get hk]
        split <;> rfl]
      generalize ps[k] = x at *
      clear hm hr hhl hk hn
      by_cases h3 : x.r - 1 = 0
      · rw [if_pos h3]
        have h3' : (x.r - 1 == 0) = true := by simpa using h3
        clear h3
        go_enter Try.func21, Try.ntmps21
        go_wp2_with fail
        refine (hmay _ _ (hv.sl.below hb0)).mono ?_
        rintro e w1 ⟨rfl, hb1⟩
        have hY := hb0.trans (hb1.mono (by simp; try omega))
        have kA0 : Blk w1 w.heap.size 25 #[.int .i64 cap, .slice (some ⟨b, o, none⟩) ps.length c] := ((Blk.new_ w _ _ _ rfl).alloc _).keep hb1
        have kA1 : Blk w1 (w.heap.size + 1) 25 #[.int .i64 0, .slice none 0 0] := (Blk.new_ _ _ _ _ (by simp)).keep hb1
        have la := kA0.lt
        have lb := kA1.lt
        have s0 : w1.cell? ⟨w.heap.size, 0, none⟩ = some (.int .i64 cap) := by rw [kA0.cell]; rfl
        have sf0 : w1.frozen? ⟨w.heap.size, 0, none⟩ = false := kA0.free 0
        have s1 : w1.cell? ⟨w.heap.size, 1, none⟩ = some (.slice (some ⟨b, o, none⟩) ps.length c) := by rw [kA0.cell]; rfl
        have sf1 : w1.frozen? ⟨w.heap.size, 1, none⟩ = false := kA0.free 1
        have t0 : w1.cell? ⟨w.heap.size + 1, 0, none⟩ = some (.int .i64 0) := by rw [kA1.cell]; rfl
        have tf0 : w1.frozen? ⟨w.heap.size + 1, 0, none⟩ = false := kA1.free 0
        have t1 : w1.cell? ⟨w.heap.size + 1, 1, none⟩ = some (.slice none 0 0) := by rw [kA1.cell]; rfl
        have tf1 : w1.frozen? ⟨w.heap.size + 1, 1, none⟩ = false := kA1.free 1
        go_wp2_with fail
        refine (hhad _ _ (hv.keep hY)).mono ?_
        rintro e w2 ⟨rfl, hb2⟩
        replace hY := hY.trans (hb2.mono hY.size)
        replace kA0 := kA0.keep hb2
        replace kA1 := kA1.keep hb2
        clear la lb s0 s1 sf0 sf1 t0 t1 tf0 tf1
        have la := kA0.lt
        have lb := kA1.lt
        have s0 : w2.cell? ⟨w.heap.size, 0, none⟩ = some (.int .i64 cap) := by rw [kA0.cell]; rfl
        have sf0 : w2.frozen? ⟨w.heap.size, 0, none⟩ = false := kA0.free 0
        have s1 : w2.cell? ⟨w.heap.size, 1, none⟩ = some (.slice (some ⟨b, o, none⟩) ps.length c) := by rw [kA0.cell]; rfl
        have sf1 : w2.frozen? ⟨w.heap.size, 1, none⟩ = false := kA0.free 1
        have t0 : w2.cell? ⟨w.heap.size + 1, 0, none⟩ = some (.int .i64 0) := by rw [kA1.cell]; rfl
        have tf0 : w2.frozen? ⟨w.heap.size + 1, 0, none⟩ = false := kA1.free 0
        have t1 : w2.cell? ⟨w.heap.size + 1, 1, none⟩ = some (.slice none 0 0) := by rw [kA1.cell]; rfl
        have tf1 : w2.frozen? ⟨w.heap.size + 1, 1, none⟩ = false := kA1.free 1
        have e0 := hel w2 hY 0 _ rfl
        have e1 := hel w2 hY 1 _ rfl
        have e2 := hel w2 hY 2 _ rfl
        have e3 := hel w2 hY 3 _ rfl
        have e4 := hel w2 hY 4 _ rfl
        simp only [Nat.add_zero] at e0
        have hlw : b < w2.heap.size := Nat.lt_of_lt_of_le hlt hY.size
        clear hel
        go_wp2_with fail
        have hA1 := (Below.refl w2.heap.size w2).alloc (Nat.le_refl _) (.cells #[.int .i64 0, .int .i64 0, .int .i64 0, .int .i64 0, .int .i64 0] 37)
        refine (hwith _ ⟨0, 0, 0, 0, 0⟩ _ (((hv.keep hY).keep hA1))).mono ?_
        rintro e w3 ⟨v2, rfl, hst2, hb3⟩
        have hY2 := (hY.trans (hA1.mono hY.size)).trans (hb3.mono (hY.trans (hA1.mono hY.size)).size)
        have kB1 := (kA1.keep hA1).keep hb3
        obtain ⟨sv2, rfl, hrow2⟩ := hst2
        rw [List.length_set] at hrow2
        obtain ⟨A2, c2, rfl, _, _⟩ := (Sl.of_own hrow2).form
        clear kA0 kA1 s0 s1 sf0 sf1 t0 t1 tf0 tf1
        have t0 : w3.cell? ⟨w.heap.size + 1, 0, none⟩ = some (.int .i64 0) := by rw [kB1.cell]; rfl
        have tf0 : w3.frozen? ⟨w.heap.size + 1, 0, none⟩ = false := kB1.free 0
        have t1 : w3.cell? ⟨w.heap.size + 1, 1, none⟩ = some (.slice none 0 0) := by rw [kB1.cell]; rfl
        have tf1 : w3.frozen? ⟨w.heap.size + 1, 1, none⟩ = false := kB1.free 1
        go_wp2
        refine bodyPost_ret (v := .tuple #[.agg #[.int .i64 cap, .slice A2 ps.length c2], .int .i64 0]) (by simp [results, Try.results21, go_sem, t0, t1]) rfl ⟨_, rfl, ?_, ?_⟩
        · have hlen : (ps.set k (⟨0, 0, 0, 0, 0⟩ : Pg)).length = ps.length := List.length_set
          have hzz := hY.size
          have hzz2 := hb3.size
          simp only [World.size_alloc] at hzz2
          have hfin := ownsRow_mono (ownsRow_setCell_below (ownsRow_setCell_below hrow2 (a := ⟨w.heap.size + 1, 0, none⟩) (by simp; omega) (.int .i64 cap)) (a := ⟨w.heap.size + 1, 1, none⟩) (by simp; omega) (.slice A2 ps.length c2)) (show w.heap.size ≤ _ by simp; omega)
          have hfin2 : StO _ w.heap.size (.agg #[.int .i64 cap, .slice A2 ps.length c2]) cap (ps.set k ⟨0, 0, 0, 0, 0⟩) := ⟨_, rfl, by rw [hlen]; exact hfin⟩
          exact ⟨hfin2.to, fun _ => hfin2⟩
        · exact (hY2.setCell (p := ⟨w.heap.size + 1, 0, none⟩) (by simp) _).setCell (p := ⟨w.heap.size + 1, 1, none⟩) (by simp) _
      · rw [if_neg h3]
        have h3' : (x.r - 1 == 0) = false := by simpa using h3
        clear h3
        go_enter Try.func21, Try.ntmps21
        go_wp2_with fail
        refine (hmay _ _ (hv.sl.below hb0)).mono ?_
        rintro e w1 ⟨rfl, hb1⟩
        have hY := hb0.trans (hb1.mono (by simp; try omega))
        have kA0 : Blk w1 w.heap.size 25 #[.int .i64 cap, .slice (some ⟨b, o, none⟩) ps.length c] := ((Blk.new_ w _ _ _ rfl).alloc _).keep hb1
        have kA1 : Blk w1 (w.heap.size + 1) 25 #[.int .i64 0, .slice none 0 0] := (Blk.new_ _ _ _ _ (by simp)).keep hb1
        have la := kA0.lt
        have lb := kA1.lt
        have s0 : w1.cell? ⟨w.heap.size, 0, none⟩ = some (.int .i64 cap) := by rw [kA0.cell]; rfl
        have sf0 : w1.frozen? ⟨w.heap.size, 0, none⟩ = false := kA0.free 0
        have s1 : w1.cell? ⟨w.heap.size, 1, none⟩ = some (.slice (some ⟨b, o, none⟩) ps.length c) := by rw [kA0.cell]; rfl
        have sf1 : w1.frozen? ⟨w.heap.size, 1, none⟩ = false := kA0.free 1
        have t0 : w1.cell? ⟨w.heap.size + 1, 0, none⟩ = some (.int .i64 0) := by rw [kA1.cell]; rfl
        have tf0 : w1.frozen? ⟨w.heap.size + 1, 0, none⟩ = false := kA1.free 0
        have t1 : w1.cell? ⟨w.heap.size + 1, 1, none⟩ = some (.slice none 0 0) := by rw [kA1.cell]; rfl
        have tf1 : w1.frozen? ⟨w.heap.size + 1, 1, none⟩ = false := kA1.free 1
        go_wp2_with fail
        refine (hhad _ _ (hv.keep hY)).mono ?_
        rintro e w2 ⟨rfl, hb2⟩
        replace hY := hY.trans (hb2.mono hY.size)
        replace kA0 := kA0.keep hb2
        replace kA1 := kA1.keep hb2
        clear la lb s0 s1 sf0 sf1 t0 t1 tf0 tf1
        have la := kA0.lt
        have lb := kA1.lt
        have s0 : w2.cell? ⟨w.heap.size, 0, none⟩ = some (.int .i64 cap) := by rw [kA0.cell]; rfl
        have sf0 : w2.frozen? ⟨w.heap.size, 0, none⟩ = false := kA0.free 0
        have s1 : w2.cell? ⟨w.heap.size, 1, none⟩ = some (.slice (some ⟨b, o, none⟩) ps.length c) := by rw [kA0.cell]; rfl
        have sf1 : w2.frozen? ⟨w.heap.size, 1, none⟩ = false := kA0.free 1
        have t0 : w2.cell? ⟨w.heap.size + 1, 0, none⟩ = some (.int .i64 0) := by rw [kA1.cell]; rfl
        have tf0 : w2.frozen? ⟨w.heap.size + 1, 0, none⟩ = false := kA1.free 0
        have t1 : w2.cell? ⟨w.heap.size + 1, 1, none⟩ = some (.slice none 0 0) := by rw [kA1.cell]; rfl
        have tf1 : w2.frozen? ⟨w.heap.size + 1, 1, none⟩ = false := kA1.free 1
        have e0 := hel w2 hY 0 _ rfl
        have e1 := hel w2 hY 1 _ rfl
        have e2 := hel w2 hY 2 _ rfl
        have e3 := hel w2 hY 3 _ rfl
        have e4 := hel w2 hY 4 _ rfl
        simp only [Nat.add_zero] at e0
        have hlw : b < w2.heap.size := Nat.lt_of_lt_of_le hlt hY.size
        clear hel
        go_wp2_with fail
        have hA1 := (Below.refl w2.heap.size w2).alloc (Nat.le_refl _) (.cells #[.int .i64 (x.r - 1), .int .i64 x.a, .int .i64 x.b, .int .i64 x.c, .int .i64 x.d] 37)
        refine (hwith _ { x with r := x.r - 1 } _ (((hv.keep hY).keep hA1))).mono ?_
        rintro e w3 ⟨v2, rfl, hst2, hb3⟩
        have hY2 := (hY.trans (hA1.mono hY.size)).trans (hb3.mono (hY.trans (hA1.mono hY.size)).size)
        have kB1 := (kA1.keep hA1).keep hb3
        obtain ⟨sv2, rfl, hrow2⟩ := hst2
        rw [List.length_set] at hrow2
        obtain ⟨A2, c2, rfl, _, _⟩ := (Sl.of_own hrow2).form
        clear kA0 kA1 s0 s1 sf0 sf1 t0 t1 tf0 tf1
        have t0 : w3.cell? ⟨w.heap.size + 1, 0, none⟩ = some (.int .i64 0) := by rw [kB1.cell]; rfl
        have tf0 : w3.frozen? ⟨w.heap.size + 1, 0, none⟩ = false := kB1.free 0
        have t1 : w3.cell? ⟨w.heap.size + 1, 1, none⟩ = some (.slice none 0 0) := by rw [kB1.cell]; rfl
        have tf1 : w3.frozen? ⟨w.heap.size + 1, 1, none⟩ = false := kB1.free 1
        go_wp2
        refine bodyPost_ret (v := .tuple #[.agg #[.int .i64 cap, .slice A2 ps.length c2], .int .i64 0]) (by simp [results, Try.results21, go_sem, t0, t1]) rfl ⟨_, rfl, ?_, ?_⟩
        · have hlen : (ps.set k ({ x with r := x.r - 1 } : Pg)).length = ps.length := List.length_set
          have hzz := hY.size
          have hzz2 := hb3.size
          simp only [World.size_alloc] at hzz2
          have hfin := ownsRow_mono (ownsRow_setCell_below (ownsRow_setCell_below hrow2 (a := ⟨w.heap.size + 1, 0, none⟩) (by simp; omega) (.int .i64 cap)) (a := ⟨w.heap.size + 1, 1, none⟩) (by simp; omega) (.slice A2 ps.length c2)) (show w.heap.size ≤ _ by simp; omega)
          have hfin2 : StO _ w.heap.size (.agg #[.int .i64 cap, .slice A2 ps.length c2]) cap (ps.set k { x with r := x.r - 1 }) := ⟨_, rfl, by rw [hlen]; exact hfin⟩
          exact ⟨hfin2.to, fun _ => hfin2⟩
        · exact (hY2.setCell (p := ⟨w.heap.size + 1, 0, none⟩) (by simp) _).setCell (p := ⟨w.heap.size + 1, 1, none⟩) (by simp) _

end Go.Proofs.Ytelfkopoppfaaaa
