/- foliateref16: Write. -/
import Derived.Test.YtelfkopoppfaaaaRpAlloc
namespace Go.Proofs.Ytelfkopoppfaaaa
open Go Go.RowKit
set_option linter.unusedVariables false
attribute [local go_sem ↓] Go.wp_at_zero Go.wp_at_succ

def RefW (cap : Int) (r : Int × Int × List Pg) (w : World) (e : Ending) (w' : World) : Prop :=
  ∃ v', e = .returned (.tuple #[v', .int .i64 r.1, .int .i64 r.2.1]) ∧ StV w' v' cap r.2.2 ∧ Below w.heap.size w w'

theorem wset_cells (x : Pg) (m : Nat) (v : Int) (hm : m < 4) : (#[Value.int .i64 x.r, .int .i64 x.a, .int .i64 x.b, .int .i64 x.c, .int .i64 x.d] : Array Value).setIfInBounds (1 + m) (.int .i64 v) = #[.int .i64 (wset x m v).r, .int .i64 (wset x m v).a, .int .i64 (wset x m v).b, .int .i64 (wset x m v).c, .int .i64 (wset x m v).d] := by
  obtain rfl | rfl | rfl | rfl : m = 0 ∨ m = 1 ∨ m = 2 ∨ m = 3 := by omega
  all_goals rfl

/-- What alloc does is the same for every page, but for that page. -/
theorem alloc_other {cap : Int} {ps : List Pg} (x : Pg) (h : (allocL cap ps ⟨0, 0, 0, 0, 0⟩).2.1 = 0) :
    ∃ (a : Nat) (L : List Pg), allocL cap ps ⟨0, 0, 0, 0, 0⟩ = ((a : Int), 0, L) ∧ a < L.length ∧ L.length ≤ ps.length + 1 ∧ allocL cap ps x = ((a : Int), 0, L.set a { x with r := 1 }) := by
  unfold allocL at *
  rcases idxF_range freeP ps with h5 | ⟨k, hk, h5⟩
  · rw [if_pos h5] at h ⊢
    rw [if_pos h5]
    by_cases h6 : (ps.length : Int) = cap
    · rw [if_pos h6] at h; cases h
    · rw [if_neg h6, if_neg h6]
      refine ⟨ps.length, _, rfl, by simp, by simp, ?_⟩
      rw [List.set_append_right _ _ (Nat.le_refl _)]
      simp
  · rw [if_neg (by omega), if_neg (by omega)]
    refine ⟨k, _, by rw [h5], by simpa using hk, by simp, ?_⟩
    rw [h5]
    simp
theorem alloc_same_err {cap : Int} {ps : List Pg} (x : Pg) (h : (allocL cap ps ⟨0, 0, 0, 0, 0⟩).2.1 ≠ 0) : allocL cap ps ⟨0, 0, 0, 0, 0⟩ = (-1, 8, ps) ∧ allocL cap ps x = (-1, 8, ps) := by
  refine ⟨allocL_err h, allocL_err ?_⟩
  unfold allocL at *
  rcases idxF_range freeP ps with h5 | ⟨k, hk, h5⟩
  · rw [if_pos h5] at h ⊢
    by_cases h6 : (ps.length : Int) = cap
    · rw [if_pos h6]; simp
    · rw [if_neg h6] at h; exact absurd rfl h
  · rw [if_neg (by omega)] at h
    exact absurd rfl h

set_option maxRecDepth 100000 in
set_option maxHeartbeats 8000000 in
theorem RWrite_any (v : Value) (cap p i u : Int) (ps : List Pg) (w : World) (hv : StV w v cap ps) (hn : ps.length ≤ 999) :
    Calls Try.prog 22 #[v, .int .i64 p, .int .i64 i, .int .i64 u] w (RefW cap (writeL cap ps p i u) w) := by
  obtain ⟨A, c, rfl, hv⟩ := hv.form
  have hb0 : Below w.heap.size w ((w.alloc (.cells #[.int .i64 cap, .slice A ps.length c] 25)).alloc (.cells #[.int .i64 0, .slice none 0 0] 25)) := ((Below.refl _ w).alloc (Nat.le_refl _) _).alloc (by simp) _
  have hmay := fun sv W h => rmay_any cap sv ps W h
  have hhad := fun v W h => rhad_any v cap p ps W h
  cases hm : mayP cap ps with
  | false =>
    rw [show writeL cap ps p i u = (-1, 1, ps) from by simp [writeL, hadL, hm]]
    rw [hm] at hmay
    clear hm
    go_enter Try.func22, Try.ntmps22
    go_wp2_with fail
    refine (hmay _ _ (hv.sl.below hb0)).mono ?_
    rintro e w1 ⟨rfl, hb1⟩
    have hY := hb0.trans (hb1.mono (by simp; try omega))
    have kA0 : Blk w1 w.heap.size 25 #[.int .i64 cap, .slice A ps.length c] := ((Blk.new_ w _ _ _ rfl).alloc _).keep hb1
    have kA1 : Blk w1 (w.heap.size + 1) 25 #[.int .i64 0, .slice none 0 0] := (Blk.new_ _ _ _ _ (by simp)).keep hb1
    have la := kA0.lt
    have lb := kA1.lt
    have s0 : w1.cell? ⟨w.heap.size, 0, none⟩ = some (.int .i64 cap) := by rw [kA0.cell]; rfl
    have sf0 : w1.frozen? ⟨w.heap.size, 0, none⟩ = false := kA0.free 0
    have s1 : w1.cell? ⟨w.heap.size, 1, none⟩ = some (.slice A ps.length c) := by rw [kA0.cell]; rfl
    have sf1 : w1.frozen? ⟨w.heap.size, 1, none⟩ = false := kA0.free 1
    have t0 : w1.cell? ⟨w.heap.size + 1, 0, none⟩ = some (.int .i64 0) := by rw [kA1.cell]; rfl
    have tf0 : w1.frozen? ⟨w.heap.size + 1, 0, none⟩ = false := kA1.free 0
    have t1 : w1.cell? ⟨w.heap.size + 1, 1, none⟩ = some (.slice none 0 0) := by rw [kA1.cell]; rfl
    have tf1 : w1.frozen? ⟨w.heap.size + 1, 1, none⟩ = false := kA1.free 1
    go_wp2
    refine bodyPost_ret (v := .tuple #[.agg #[.int .i64 cap, .slice A ps.length c], .int .i64 (-1), .int .i64 1]) (by simp [results, Try.results22, go_sem, t0, t1]) rfl ⟨_, rfl, ?_, ?_⟩
    · exact hv.keep ((hY.setCell (p := ⟨w.heap.size + 1, 0, none⟩) (by simp) _).setCell (p := ⟨w.heap.size + 1, 1, none⟩) (by simp) _)
    · exact (hY.setCell (p := ⟨w.heap.size + 1, 0, none⟩) (by simp) _).setCell (p := ⟨w.heap.size + 1, 1, none⟩) (by simp) _
  | true =>
    rw [hm] at hmay
    have hhl := had_ref (p := p) hm
    cases hr : hadR ps p with
    | false =>
      rw [hr] at hhad hhl
      rw [show writeL cap ps p i u = (-1, 11, ps) from by simp [writeL, hhl]]
      clear hm hr hhl
      go_enter Try.func22, Try.ntmps22
      go_wp2_with fail
      refine (hmay _ _ (hv.sl.below hb0)).mono ?_
      rintro e w1 ⟨rfl, hb1⟩
      have hY := hb0.trans (hb1.mono (by simp; try omega))
      have kA0 : Blk w1 w.heap.size 25 #[.int .i64 cap, .slice A ps.length c] := ((Blk.new_ w _ _ _ rfl).alloc _).keep hb1
      have kA1 : Blk w1 (w.heap.size + 1) 25 #[.int .i64 0, .slice none 0 0] := (Blk.new_ _ _ _ _ (by simp)).keep hb1
      have la := kA0.lt
      have lb := kA1.lt
      have s0 : w1.cell? ⟨w.heap.size, 0, none⟩ = some (.int .i64 cap) := by rw [kA0.cell]; rfl
      have sf0 : w1.frozen? ⟨w.heap.size, 0, none⟩ = false := kA0.free 0
      have s1 : w1.cell? ⟨w.heap.size, 1, none⟩ = some (.slice A ps.length c) := by rw [kA0.cell]; rfl
      have sf1 : w1.frozen? ⟨w.heap.size, 1, none⟩ = false := kA0.free 1
      have t0 : w1.cell? ⟨w.heap.size + 1, 0, none⟩ = some (.int .i64 0) := by rw [kA1.cell]; rfl
      have tf0 : w1.frozen? ⟨w.heap.size + 1, 0, none⟩ = false := kA1.free 0
      have t1 : w1.cell? ⟨w.heap.size + 1, 1, none⟩ = some (.slice none 0 0) := by rw [kA1.cell]; rfl
      have tf1 : w1.frozen? ⟨w.heap.size + 1, 1, none⟩ = false := kA1.free 1
      go_wp2_with fail
      refine (hhad _ _ (hv.keep hY)).mono ?_
      rintro e w2 ⟨rfl, hb2⟩
      replace hY := hY.trans (hb2.mono hY.size)
      replace kA0 := kA0.keep hb2
      replace kA1 := kA1.keep hb2
      clear la lb s0 s1 sf0 sf1 t0 t1 tf0 tf1
      have la := kA0.lt
      have lb := kA1.lt
      have s0 : w2.cell? ⟨w.heap.size, 0, none⟩ = some (.int .i64 cap) := by rw [kA0.cell]; rfl
      have sf0 : w2.frozen? ⟨w.heap.size, 0, none⟩ = false := kA0.free 0
      have s1 : w2.cell? ⟨w.heap.size, 1, none⟩ = some (.slice A ps.length c) := by rw [kA0.cell]; rfl
      have sf1 : w2.frozen? ⟨w.heap.size, 1, none⟩ = false := kA0.free 1
      have t0 : w2.cell? ⟨w.heap.size + 1, 0, none⟩ = some (.int .i64 0) := by rw [kA1.cell]; rfl
      have tf0 : w2.frozen? ⟨w.heap.size + 1, 0, none⟩ = false := kA1.free 0
      have t1 : w2.cell? ⟨w.heap.size + 1, 1, none⟩ = some (.slice none 0 0) := by rw [kA1.cell]; rfl
      have tf1 : w2.frozen? ⟨w.heap.size + 1, 1, none⟩ = false := kA1.free 1
      go_wp2
      refine bodyPost_ret (v := .tuple #[.agg #[.int .i64 cap, .slice A ps.length c], .int .i64 (-1), .int .i64 11]) (by simp [results, Try.results22, go_sem, t0, t1]) rfl ⟨_, rfl, ?_, ?_⟩
      · exact hv.keep ((hY.setCell (p := ⟨w.heap.size + 1, 0, none⟩) (by simp) _).setCell (p := ⟨w.heap.size + 1, 1, none⟩) (by simp) _)
      · exact (hY.setCell (p := ⟨w.heap.size + 1, 0, none⟩) (by simp) _).setCell (p := ⟨w.heap.size + 1, 1, none⟩) (by simp) _
    | true =>
      rw [hr] at hhad hhl
      simp only [if_true] at hhl
      by_cases h1 : i < 0
      · rw [show writeL cap ps p i u = (-1, 11, ps) from by unfold writeL; rw [if_pos hhl, if_neg (by omega)]]
        clear hm hr hhl
        go_enter Try.func22, Try.ntmps22
        go_wp2_with fail
        refine (hmay _ _ (hv.sl.below hb0)).mono ?_
        rintro e w1 ⟨rfl, hb1⟩
        have hY := hb0.trans (hb1.mono (by simp; try omega))
        have kA0 : Blk w1 w.heap.size 25 #[.int .i64 cap, .slice A ps.length c] := ((Blk.new_ w _ _ _ rfl).alloc _).keep hb1
        have kA1 : Blk w1 (w.heap.size + 1) 25 #[.int .i64 0, .slice none 0 0] := (Blk.new_ _ _ _ _ (by simp)).keep hb1
        have la := kA0.lt
        have lb := kA1.lt
        have s0 : w1.cell? ⟨w.heap.size, 0, none⟩ = some (.int .i64 cap) := by rw [kA0.cell]; rfl
        have sf0 : w1.frozen? ⟨w.heap.size, 0, none⟩ = false := kA0.free 0
        have s1 : w1.cell? ⟨w.heap.size, 1, none⟩ = some (.slice A ps.length c) := by rw [kA0.cell]; rfl
        have sf1 : w1.frozen? ⟨w.heap.size, 1, none⟩ = false := kA0.free 1
        have t0 : w1.cell? ⟨w.heap.size + 1, 0, none⟩ = some (.int .i64 0) := by rw [kA1.cell]; rfl
        have tf0 : w1.frozen? ⟨w.heap.size + 1, 0, none⟩ = false := kA1.free 0
        have t1 : w1.cell? ⟨w.heap.size + 1, 1, none⟩ = some (.slice none 0 0) := by rw [kA1.cell]; rfl
        have tf1 : w1.frozen? ⟨w.heap.size + 1, 1, none⟩ = false := kA1.free 1
        go_wp2_with fail
        refine (hhad _ _ (hv.keep hY)).mono ?_
        rintro e w2 ⟨rfl, hb2⟩
        replace hY := hY.trans (hb2.mono hY.size)
        replace kA0 := kA0.keep hb2
        replace kA1 := kA1.keep hb2
        clear la lb s0 s1 sf0 sf1 t0 t1 tf0 tf1
        have la := kA0.lt
        have lb := kA1.lt
        have s0 : w2.cell? ⟨w.heap.size, 0, none⟩ = some (.int .i64 cap) := by rw [kA0.cell]; rfl
        have sf0 : w2.frozen? ⟨w.heap.size, 0, none⟩ = false := kA0.free 0
        have s1 : w2.cell? ⟨w.heap.size, 1, none⟩ = some (.slice A ps.length c) := by rw [kA0.cell]; rfl
        have sf1 : w2.frozen? ⟨w.heap.size, 1, none⟩ = false := kA0.free 1
        have t0 : w2.cell? ⟨w.heap.size + 1, 0, none⟩ = some (.int .i64 0) := by rw [kA1.cell]; rfl
        have tf0 : w2.frozen? ⟨w.heap.size + 1, 0, none⟩ = false := kA1.free 0
        have t1 : w2.cell? ⟨w.heap.size + 1, 1, none⟩ = some (.slice none 0 0) := by rw [kA1.cell]; rfl
        have tf1 : w2.frozen? ⟨w.heap.size + 1, 1, none⟩ = false := kA1.free 1
        go_wp2
        refine bodyPost_ret (v := .tuple #[.agg #[.int .i64 cap, .slice A ps.length c], .int .i64 (-1), .int .i64 11]) (by simp [results, Try.results22, go_sem, t0, t1]) rfl ⟨_, rfl, ?_, ?_⟩
        · exact hv.keep ((hY.setCell (p := ⟨w.heap.size + 1, 0, none⟩) (by simp) _).setCell (p := ⟨w.heap.size + 1, 1, none⟩) (by simp) _)
        · exact (hY.setCell (p := ⟨w.heap.size + 1, 0, none⟩) (by simp) _).setCell (p := ⟨w.heap.size + 1, 1, none⟩) (by simp) _
      by_cases h2 : 4 ≤ i
      · rw [show writeL cap ps p i u = (-1, 11, ps) from by unfold writeL; rw [if_pos hhl, if_neg (by omega)]]
        clear hm hr hhl
        go_enter Try.func22, Try.ntmps22
        go_wp2_with fail
        refine (hmay _ _ (hv.sl.below hb0)).mono ?_
        rintro e w1 ⟨rfl, hb1⟩
        have hY := hb0.trans (hb1.mono (by simp; try omega))
        have kA0 : Blk w1 w.heap.size 25 #[.int .i64 cap, .slice A ps.length c] := ((Blk.new_ w _ _ _ rfl).alloc _).keep hb1
        have kA1 : Blk w1 (w.heap.size + 1) 25 #[.int .i64 0, .slice none 0 0] := (Blk.new_ _ _ _ _ (by simp)).keep hb1
        have la := kA0.lt
        have lb := kA1.lt
        have s0 : w1.cell? ⟨w.heap.size, 0, none⟩ = some (.int .i64 cap) := by rw [kA0.cell]; rfl
        have sf0 : w1.frozen? ⟨w.heap.size, 0, none⟩ = false := kA0.free 0
        have s1 : w1.cell? ⟨w.heap.size, 1, none⟩ = some (.slice A ps.length c) := by rw [kA0.cell]; rfl
        have sf1 : w1.frozen? ⟨w.heap.size, 1, none⟩ = false := kA0.free 1
        have t0 : w1.cell? ⟨w.heap.size + 1, 0, none⟩ = some (.int .i64 0) := by rw [kA1.cell]; rfl
        have tf0 : w1.frozen? ⟨w.heap.size + 1, 0, none⟩ = false := kA1.free 0
        have t1 : w1.cell? ⟨w.heap.size + 1, 1, none⟩ = some (.slice none 0 0) := by rw [kA1.cell]; rfl
        have tf1 : w1.frozen? ⟨w.heap.size + 1, 1, none⟩ = false := kA1.free 1
        go_wp2_with fail
        refine (hhad _ _ (hv.keep hY)).mono ?_
        rintro e w2 ⟨rfl, hb2⟩
        replace hY := hY.trans (hb2.mono hY.size)
        replace kA0 := kA0.keep hb2
        replace kA1 := kA1.keep hb2
        clear la lb s0 s1 sf0 sf1 t0 t1 tf0 tf1
        have la := kA0.lt
        have lb := kA1.lt
        have s0 : w2.cell? ⟨w.heap.size, 0, none⟩ = some (.int .i64 cap) := by rw [kA0.cell]; rfl
        have sf0 : w2.frozen? ⟨w.heap.size, 0, none⟩ = false := kA0.free 0
        have s1 : w2.cell? ⟨w.heap.size, 1, none⟩ = some (.slice A ps.length c) := by rw [kA0.cell]; rfl
        have sf1 : w2.frozen? ⟨w.heap.size, 1, none⟩ = false := kA0.free 1
        have t0 : w2.cell? ⟨w.heap.size + 1, 0, none⟩ = some (.int .i64 0) := by rw [kA1.cell]; rfl
        have tf0 : w2.frozen? ⟨w.heap.size + 1, 0, none⟩ = false := kA1.free 0
        have t1 : w2.cell? ⟨w.heap.size + 1, 1, none⟩ = some (.slice none 0 0) := by rw [kA1.cell]; rfl
        have tf1 : w2.frozen? ⟨w.heap.size + 1, 1, none⟩ = false := kA1.free 1
        go_wp2
        refine bodyPost_ret (v := .tuple #[.agg #[.int .i64 cap, .slice A ps.length c], .int .i64 (-1), .int .i64 11]) (by simp [results, Try.results22, go_sem, t0, t1]) rfl ⟨_, rfl, ?_, ?_⟩
        · exact hv.keep ((hY.setCell (p := ⟨w.heap.size + 1, 0, none⟩) (by simp) _).setCell (p := ⟨w.heap.size + 1, 1, none⟩) (by simp) _)
        · exact (hY.setCell (p := ⟨w.heap.size + 1, 0, none⟩) (by simp) _).setCell (p := ⟨w.heap.size + 1, 1, none⟩) (by simp) _
      obtain ⟨m, rfl⟩ := Int.eq_ofNat_of_zero_le (Int.not_lt.1 h1)
      have hm4 : m < 4 := by omega
      have hm0 : (0 : Int) ≤ (m : Int) := by omega
      have hm1 : (m : Int) < 4 := by omega
      obtain ⟨k, rfl, hk, hr0⟩ := hadR_ok hr
      have hr1 := (odd_bounds (may_odd hm k hk)).2
      have hk0 : (0 : Int) ≤ (k : Int) := by omega
      have hk1 : (k : Int) < (ps.length : Int) := by omega
      have hwith := fun (qs : List Pg) (a : Nat) v y W h hk hn => with_any v cap a y qs W h hk hn
      have hal := fun v W h => RAlloc_any v cap ps W h (by omega)
      rw [show allocX cap ps = allocL cap ps ⟨0, 0, 0, 0, 0⟩ from by simp [allocX, hm]] at hal
      have hfree := fun v qs W h hn => RFree_any v cap k qs W h hn
      obtain ⟨b, o, rfl, hlt, hel⟩ := Sl.pos encP encP_len hv.sl (by omega)
      have hel := fun W hW => hel W hW k hk
      simp only [encP] at hwith
      have hwc := wset_cells ps[k] m u hm4
      have hyr := wset_r ps[k] m u
      have hW1 : writeL cap ps k m u = if ps[k].r = 1 then ((k : Int), 0, ps.set k (wset ps[k] m u)) else (if (allocL cap ps (wset ps[k] m u)).2.1 = 0 then ((allocL cap ps (wset ps[k] m u)).1, 0, freeL (allocL cap ps (wset ps[k] m u)).2.2 k) else allocL cap ps (wset ps[k] m u)) := by
        unfold writeL
        rw [if_pos hhl, if_pos ⟨hm0, by omega⟩, pgAt_get hk]
        rfl
      have hk2 : ps[k]? = some ps[k] := List.getElem?_eq_getElem hk
      obtain ⟨x, hx⟩ : ∃ x, ps[k] = x := ⟨_, rfl⟩
      rw [hx] at hW1 hyr hwc hk2 hr0 hr1
      have hel : ∀ W, Below w.heap.size w W → ∀ i u, (encP x)[i]? = some u → W.cell? ⟨b, o + k * 5 + i, none⟩ = some u := by rw [← hx]; exact hel
      obtain ⟨y, hy⟩ : ∃ y, wset x m u = y := ⟨_, rfl⟩
      rw [hy] at hW1 hyr hwc
      have HW1 := Lib.hid hW1
      have HYR := Lib.hid hyr
      have HWC := Lib.hid hwc
      have HM := Lib.hid hm
      have HHL := Lib.hid hhl
      have HK2 := Lib.hid hk2
      have HWITH := Lib.hid hwith
      have HAL := Lib.hid hal
      have HFREE := Lib.hid hfree
      clear hW1 hwc hyr hm hhl hr hx hy hk2 hwith hal hfree
      by_cases h3 : x.r = 1
      · have h3' : (y.r == 1) = true := by rw [HYR.out]; simpa using h3
        have H3 := Lib.hid h3
        clear h3
        go_enter Try.func22, Try.ntmps22
        go_wp2_with fail
        refine (hmay _ _ (hv.sl.below hb0)).mono ?_
        rintro e w1 ⟨rfl, hb1⟩
        have hY := hb0.trans (hb1.mono (by simp; try omega))
        have kA0 : Blk w1 w.heap.size 25 #[.int .i64 cap, .slice (some ⟨b, o, none⟩) ps.length c] := ((Blk.new_ w _ _ _ rfl).alloc _).keep hb1
        have kA1 : Blk w1 (w.heap.size + 1) 25 #[.int .i64 0, .slice none 0 0] := (Blk.new_ _ _ _ _ (by simp)).keep hb1
        have la := kA0.lt
        have lb := kA1.lt
        have s0 : w1.cell? ⟨w.heap.size, 0, none⟩ = some (.int .i64 cap) := by rw [kA0.cell]; rfl
        have sf0 : w1.frozen? ⟨w.heap.size, 0, none⟩ = false := kA0.free 0
        have s1 : w1.cell? ⟨w.heap.size, 1, none⟩ = some (.slice (some ⟨b, o, none⟩) ps.length c) := by rw [kA0.cell]; rfl
        have sf1 : w1.frozen? ⟨w.heap.size, 1, none⟩ = false := kA0.free 1
        have t0 : w1.cell? ⟨w.heap.size + 1, 0, none⟩ = some (.int .i64 0) := by rw [kA1.cell]; rfl
        have tf0 : w1.frozen? ⟨w.heap.size + 1, 0, none⟩ = false := kA1.free 0
        have t1 : w1.cell? ⟨w.heap.size + 1, 1, none⟩ = some (.slice none 0 0) := by rw [kA1.cell]; rfl
        have tf1 : w1.frozen? ⟨w.heap.size + 1, 1, none⟩ = false := kA1.free 1
        go_wp2_with fail
        refine (hhad _ _ (hv.keep hY)).mono ?_
        rintro e w2 ⟨rfl, hb2⟩
        replace hY := hY.trans (hb2.mono hY.size)
        replace kA0 := kA0.keep hb2
        replace kA1 := kA1.keep hb2
        clear la lb s0 s1 sf0 sf1 t0 t1 tf0 tf1
        have la := kA0.lt
        have lb := kA1.lt
        have s0 : w2.cell? ⟨w.heap.size, 0, none⟩ = some (.int .i64 cap) := by rw [kA0.cell]; rfl
        have sf0 : w2.frozen? ⟨w.heap.size, 0, none⟩ = false := kA0.free 0
        have s1 : w2.cell? ⟨w.heap.size, 1, none⟩ = some (.slice (some ⟨b, o, none⟩) ps.length c) := by rw [kA0.cell]; rfl
        have sf1 : w2.frozen? ⟨w.heap.size, 1, none⟩ = false := kA0.free 1
        have t0 : w2.cell? ⟨w.heap.size + 1, 0, none⟩ = some (.int .i64 0) := by rw [kA1.cell]; rfl
        have tf0 : w2.frozen? ⟨w.heap.size + 1, 0, none⟩ = false := kA1.free 0
        have t1 : w2.cell? ⟨w.heap.size + 1, 1, none⟩ = some (.slice none 0 0) := by rw [kA1.cell]; rfl
        have tf1 : w2.frozen? ⟨w.heap.size + 1, 1, none⟩ = false := kA1.free 1
        have e0 := hel w2 hY 0 _ rfl
        have e1 := hel w2 hY 1 _ rfl
        have e2 := hel w2 hY 2 _ rfl
        have e3 := hel w2 hY 3 _ rfl
        have e4 := hel w2 hY 4 _ rfl
        simp only [Nat.add_zero] at e0
        have hlw : b < w2.heap.size := Nat.lt_of_lt_of_le hlt hY.size
        clear hel
        clear hmay hhad
        go_upto_region 8 with fail
        have hA1 := (Below.refl w2.heap.size w2).alloc (Nat.le_refl _) (.cells #[.int .i64 x.r, .int .i64 x.a, .int .i64 x.b, .int .i64 x.c, .int .i64 x.d] 37)
        have kX := Blk.new w2 37 #[.int .i64 x.r, .int .i64 x.a, .int .i64 x.b, .int .i64 x.c, .int .i64 x.d]
        replace kA0 := kA0.keep hA1
        replace kA1 := kA1.keep hA1
        replace hY := hY.trans (hA1.mono hY.size)
        obtain ⟨w3, hw3⟩ : ∃ z, w2.alloc (.cells #[.int .i64 x.r, .int .i64 x.a, .int .i64 x.b, .int .i64 x.c, .int .i64 x.d] 37) = z := ⟨_, rfl⟩
        rw [hw3] at kX kA0 kA1 hY ⊢
        clear hw3 hA1 la lb s0 s1 sf0 sf1 t0 t1 tf0 tf1 e0 e1 e2 e3 e4
        have kXf := kX.free (1 + m)
        obtain ⟨uu, kXc⟩ : ∃ z, w3.cell? ⟨w2.heap.size, 1 + m, none⟩ = some z := ⟨_, (kX.cell (1 + m)).trans (Array.getElem?_eq_getElem (by simp; omega))⟩
        go_upto_region 9 with fail
        have hzw := hb2.size
        have hzw1 := hb1.size
        simp only [World.size_alloc] at hzw1
        replace kX := kX.set_ (1 + m) (.int .i64 u)
        rw [HWC.out] at kX
        replace kA0 := kA0.far (p := ⟨w2.heap.size, 1 + m, none⟩) (by simp; omega) (.int .i64 u)
        replace kA1 := kA1.far (p := ⟨w2.heap.size, 1 + m, none⟩) (by simp; omega) (.int .i64 u)
        replace hY := hY.setCell (p := ⟨w2.heap.size, 1 + m, none⟩) (by simp; omega) (.int .i64 u)
        obtain ⟨w4, hw4⟩ : ∃ z, w3.setCell ⟨w2.heap.size, 1 + m, none⟩ (.int .i64 u) = z := ⟨_, rfl⟩
        rw [hw4] at kX kA0 kA1 hY ⊢
        clear hw4 kXf kXc
        have la := kA0.lt
        have lb := kA1.lt
        have lx := kX.lt
        have s0 : w4.cell? ⟨w.heap.size, 0, none⟩ = some (.int .i64 cap) := by rw [kA0.cell]; rfl
        have sf0 : w4.frozen? ⟨w.heap.size, 0, none⟩ = false := kA0.free 0
        have s1 : w4.cell? ⟨w.heap.size, 1, none⟩ = some (.slice (some ⟨b, o, none⟩) ps.length c) := by rw [kA0.cell]; rfl
        have sf1 : w4.frozen? ⟨w.heap.size, 1, none⟩ = false := kA0.free 1
        have t0 : w4.cell? ⟨w.heap.size + 1, 0, none⟩ = some (.int .i64 0) := by rw [kA1.cell]; rfl
        have tf0 : w4.frozen? ⟨w.heap.size + 1, 0, none⟩ = false := kA1.free 0
        have t1 : w4.cell? ⟨w.heap.size + 1, 1, none⟩ = some (.slice none 0 0) := by rw [kA1.cell]; rfl
        have tf1 : w4.frozen? ⟨w.heap.size + 1, 1, none⟩ = false := kA1.free 1
        have x0 : w4.cell? ⟨w2.heap.size, 0, none⟩ = some (.int .i64 y.r) := by rw [kX.cell]; rfl
        have xf0 : w4.frozen? ⟨w2.heap.size, 0, none⟩ = false := kX.free 0
        have x1 : w4.cell? ⟨w2.heap.size, 1, none⟩ = some (.int .i64 y.a) := by rw [kX.cell]; rfl
        have xf1 : w4.frozen? ⟨w2.heap.size, 1, none⟩ = false := kX.free 1
        have x2 : w4.cell? ⟨w2.heap.size, 2, none⟩ = some (.int .i64 y.b) := by rw [kX.cell]; rfl
        have xf2 : w4.frozen? ⟨w2.heap.size, 2, none⟩ = false := kX.free 2
        have x3 : w4.cell? ⟨w2.heap.size, 3, none⟩ = some (.int .i64 y.c) := by rw [kX.cell]; rfl
        have xf3 : w4.frozen? ⟨w2.heap.size, 3, none⟩ = false := kX.free 3
        have x4 : w4.cell? ⟨w2.heap.size, 4, none⟩ = some (.int .i64 y.d) := by rw [kX.cell]; rfl
        have xf4 : w4.frozen? ⟨w2.heap.size, 4, none⟩ = false := kX.free 4
        go_wp2_with fail
        refine (HWITH.out ps k _ y _ (hv.keep hY) hk (by omega)).mono ?_
        rintro e w5 ⟨v5, rfl, hst5, hb5⟩
        have hY5 := hY.trans (hb5.mono hY.size)
        have kB1 := kA1.keep hb5
        obtain ⟨sv5, rfl, hrow5⟩ := hst5
        rw [List.length_set] at hrow5
        obtain ⟨A5, c5, rfl, _, _⟩ := (Sl.of_own hrow5).form
        clear kA0 kA1 s0 s1 sf0 sf1 t0 t1 tf0 tf1
        have t0 : w5.cell? ⟨w.heap.size + 1, 0, none⟩ = some (.int .i64 0) := by rw [kB1.cell]; rfl
        have tf0 : w5.frozen? ⟨w.heap.size + 1, 0, none⟩ = false := kB1.free 0
        have t1 : w5.cell? ⟨w.heap.size + 1, 1, none⟩ = some (.slice none 0 0) := by rw [kB1.cell]; rfl
        have tf1 : w5.frozen? ⟨w.heap.size + 1, 1, none⟩ = false := kB1.free 1
        go_wp2
        rw [HW1.out, if_pos H3.out]
        refine bodyPost_ret (v := .tuple #[.agg #[.int .i64 cap, .slice A5 ps.length c5], .int .i64 k, .int .i64 0]) (by simp [results, Try.results22, go_sem, t0, t1]) rfl ⟨_, rfl, ⟨_, rfl, ?_⟩, ?_⟩
        · show Sl _ _ _ (ps.set k _).length _
          rw [List.length_set]
          exact Sl.of_own (ownsRow_setCell_below (ownsRow_setCell_below hrow5 (a := ⟨w.heap.size + 1, 0, none⟩) (by simp; omega) _) (a := ⟨w.heap.size + 1, 1, none⟩) (by simp; omega) _)
        · exact (hY5.setCell (p := ⟨w.heap.size + 1, 0, none⟩) (by simp) _).setCell (p := ⟨w.heap.size + 1, 1, none⟩) (by simp) _
      · have h3' : (y.r == 1) = false := by rw [HYR.out]; simpa using h3
        by_cases h5 : (allocL cap ps ⟨0, 0, 0, 0, 0⟩).2.1 = 0
        · obtain ⟨a, L, hA0, haL, hLn, hAx⟩ := alloc_other y h5
          have hal := HAL.out
          rw [hA0] at hal
          have HAX := Lib.hid hAx
          have hmx := allocL_may HM.out y
          rw [hAx] at hmx
          have hkeep := alloc_keep cap ps y k hk (by rw [pgAt_get hk, Option.some.inj ((List.getElem?_eq_getElem hk).symm.trans HK2.out)]; omega)
          rw [hAx] at hkeep
          dsimp only at hkeep hmx
          have hkx : (pgAt (L.set a { y with r := 1 }) k).r ≠ 0 := by rw [hkeep.2, pgAt_get hk, Option.some.inj ((List.getElem?_eq_getElem hk).symm.trans HK2.out)]; omega
          have hfx : freeX cap (L.set a { y with r := 1 }) k = (0, freeL (L.set a { y with r := 1 }) k) := by
            unfold freeX
            rw [had_mk hmx hkeep.1 (by rw [← pgAt_get hkeep.1]; exact hkx), if_pos rfl, Int.toNat_natCast]
          have hfree := fun v W h => HFREE.out v (L.set a { y with r := 1 }) W h (by rw [List.length_set]; omega)
          rw [hfx] at hfree
          have haL0 : (0 : Int) ≤ (a : Int) := by omega
          clear hA0 hAx hfx hkx hkeep hmx HFREE HAL HM HHL HK2
          go_enter Try.func22, Try.ntmps22
          go_wp2_with fail
          refine (hmay _ _ (hv.sl.below hb0)).mono ?_
          rintro e w1 ⟨rfl, hb1⟩
          have hY := hb0.trans (hb1.mono (by simp; try omega))
          have kA0 : Blk w1 w.heap.size 25 #[.int .i64 cap, .slice (some ⟨b, o, none⟩) ps.length c] := ((Blk.new_ w _ _ _ rfl).alloc _).keep hb1
          have kA1 : Blk w1 (w.heap.size + 1) 25 #[.int .i64 0, .slice none 0 0] := (Blk.new_ _ _ _ _ (by simp)).keep hb1
          have la := kA0.lt
          have lb := kA1.lt
          have s0 : w1.cell? ⟨w.heap.size, 0, none⟩ = some (.int .i64 cap) := by rw [kA0.cell]; rfl
          have sf0 : w1.frozen? ⟨w.heap.size, 0, none⟩ = false := kA0.free 0
          have s1 : w1.cell? ⟨w.heap.size, 1, none⟩ = some (.slice (some ⟨b, o, none⟩) ps.length c) := by rw [kA0.cell]; rfl
          have sf1 : w1.frozen? ⟨w.heap.size, 1, none⟩ = false := kA0.free 1
          have t0 : w1.cell? ⟨w.heap.size + 1, 0, none⟩ = some (.int .i64 0) := by rw [kA1.cell]; rfl
          have tf0 : w1.frozen? ⟨w.heap.size + 1, 0, none⟩ = false := kA1.free 0
          have t1 : w1.cell? ⟨w.heap.size + 1, 1, none⟩ = some (.slice none 0 0) := by rw [kA1.cell]; rfl
          have tf1 : w1.frozen? ⟨w.heap.size + 1, 1, none⟩ = false := kA1.free 1
          go_wp2_with fail
          refine (hhad _ _ (hv.keep hY)).mono ?_
          rintro e w2 ⟨rfl, hb2⟩
          replace hY := hY.trans (hb2.mono hY.size)
          replace kA0 := kA0.keep hb2
          replace kA1 := kA1.keep hb2
          clear la lb s0 s1 sf0 sf1 t0 t1 tf0 tf1
          have la := kA0.lt
          have lb := kA1.lt
          have s0 : w2.cell? ⟨w.heap.size, 0, none⟩ = some (.int .i64 cap) := by rw [kA0.cell]; rfl
          have sf0 : w2.frozen? ⟨w.heap.size, 0, none⟩ = false := kA0.free 0
          have s1 : w2.cell? ⟨w.heap.size, 1, none⟩ = some (.slice (some ⟨b, o, none⟩) ps.length c) := by rw [kA0.cell]; rfl
          have sf1 : w2.frozen? ⟨w.heap.size, 1, none⟩ = false := kA0.free 1
          have t0 : w2.cell? ⟨w.heap.size + 1, 0, none⟩ = some (.int .i64 0) := by rw [kA1.cell]; rfl
          have tf0 : w2.frozen? ⟨w.heap.size + 1, 0, none⟩ = false := kA1.free 0
          have t1 : w2.cell? ⟨w.heap.size + 1, 1, none⟩ = some (.slice none 0 0) := by rw [kA1.cell]; rfl
          have tf1 : w2.frozen? ⟨w.heap.size + 1, 1, none⟩ = false := kA1.free 1
          have e0 := hel w2 hY 0 _ rfl
          have e1 := hel w2 hY 1 _ rfl
          have e2 := hel w2 hY 2 _ rfl
          have e3 := hel w2 hY 3 _ rfl
          have e4 := hel w2 hY 4 _ rfl
          simp only [Nat.add_zero] at e0
          have hlw : b < w2.heap.size := Nat.lt_of_lt_of_le hlt hY.size
          clear hel
          clear hmay hhad
          go_upto_region 8 with fail
          have hA1 := (Below.refl w2.heap.size w2).alloc (Nat.le_refl _) (.cells #[.int .i64 x.r, .int .i64 x.a, .int .i64 x.b, .int .i64 x.c, .int .i64 x.d] 37)
          have kX := Blk.new w2 37 #[.int .i64 x.r, .int .i64 x.a, .int .i64 x.b, .int .i64 x.c, .int .i64 x.d]
          replace kA0 := kA0.keep hA1
          replace kA1 := kA1.keep hA1
          replace hY := hY.trans (hA1.mono hY.size)
          obtain ⟨w3, hw3⟩ : ∃ z, w2.alloc (.cells #[.int .i64 x.r, .int .i64 x.a, .int .i64 x.b, .int .i64 x.c, .int .i64 x.d] 37) = z := ⟨_, rfl⟩
          rw [hw3] at kX kA0 kA1 hY ⊢
          clear hw3 hA1 la lb s0 s1 sf0 sf1 t0 t1 tf0 tf1 e0 e1 e2 e3 e4
          have kXf := kX.free (1 + m)
          obtain ⟨uu, kXc⟩ : ∃ z, w3.cell? ⟨w2.heap.size, 1 + m, none⟩ = some z := ⟨_, (kX.cell (1 + m)).trans (Array.getElem?_eq_getElem (by simp; omega))⟩
          go_upto_region 9 with fail
          have hzw := hb2.size
          have hzw1 := hb1.size
          simp only [World.size_alloc] at hzw1
          replace kX := kX.set_ (1 + m) (.int .i64 u)
          rw [HWC.out] at kX
          replace kA0 := kA0.far (p := ⟨w2.heap.size, 1 + m, none⟩) (by simp; omega) (.int .i64 u)
          replace kA1 := kA1.far (p := ⟨w2.heap.size, 1 + m, none⟩) (by simp; omega) (.int .i64 u)
          replace hY := hY.setCell (p := ⟨w2.heap.size, 1 + m, none⟩) (by simp; omega) (.int .i64 u)
          obtain ⟨w4, hw4⟩ : ∃ z, w3.setCell ⟨w2.heap.size, 1 + m, none⟩ (.int .i64 u) = z := ⟨_, rfl⟩
          rw [hw4] at kX kA0 kA1 hY ⊢
          clear hw4 kXf kXc
          have la := kA0.lt
          have lb := kA1.lt
          have lx := kX.lt
          have s0 : w4.cell? ⟨w.heap.size, 0, none⟩ = some (.int .i64 cap) := by rw [kA0.cell]; rfl
          have sf0 : w4.frozen? ⟨w.heap.size, 0, none⟩ = false := kA0.free 0
          have s1 : w4.cell? ⟨w.heap.size, 1, none⟩ = some (.slice (some ⟨b, o, none⟩) ps.length c) := by rw [kA0.cell]; rfl
          have sf1 : w4.frozen? ⟨w.heap.size, 1, none⟩ = false := kA0.free 1
          have t0 : w4.cell? ⟨w.heap.size + 1, 0, none⟩ = some (.int .i64 0) := by rw [kA1.cell]; rfl
          have tf0 : w4.frozen? ⟨w.heap.size + 1, 0, none⟩ = false := kA1.free 0
          have t1 : w4.cell? ⟨w.heap.size + 1, 1, none⟩ = some (.slice none 0 0) := by rw [kA1.cell]; rfl
          have tf1 : w4.frozen? ⟨w.heap.size + 1, 1, none⟩ = false := kA1.free 1
          have x0 : w4.cell? ⟨w2.heap.size, 0, none⟩ = some (.int .i64 y.r) := by rw [kX.cell]; rfl
          have xf0 : w4.frozen? ⟨w2.heap.size, 0, none⟩ = false := kX.free 0
          have x1 : w4.cell? ⟨w2.heap.size, 1, none⟩ = some (.int .i64 y.a) := by rw [kX.cell]; rfl
          have xf1 : w4.frozen? ⟨w2.heap.size, 1, none⟩ = false := kX.free 1
          have x2 : w4.cell? ⟨w2.heap.size, 2, none⟩ = some (.int .i64 y.b) := by rw [kX.cell]; rfl
          have xf2 : w4.frozen? ⟨w2.heap.size, 2, none⟩ = false := kX.free 2
          have x3 : w4.cell? ⟨w2.heap.size, 3, none⟩ = some (.int .i64 y.c) := by rw [kX.cell]; rfl
          have xf3 : w4.frozen? ⟨w2.heap.size, 3, none⟩ = false := kX.free 3
          have x4 : w4.cell? ⟨w2.heap.size, 4, none⟩ = some (.int .i64 y.d) := by rw [kX.cell]; rfl
          have xf4 : w4.frozen? ⟨w2.heap.size, 4, none⟩ = false := kX.free 4
          go_wp2_with fail
          refine (hal _ _ (hv.keep hY)).mono ?_
          rintro e w5 ⟨v5, rfl, ⟨-, hso5⟩, hb5⟩
          obtain ⟨sv5, rfl, hrow5⟩ := hso5 rfl
          clear hso5
          dsimp only at hrow5
          obtain ⟨A5, c5, rfl, _, _⟩ := (Sl.of_own hrow5).form
          have hY5 := hY.trans (hb5.mono hY.size)
          replace kA0 := kA0.keep hb5
          replace kA1 := kA1.keep hb5
          replace kX := kX.keep hb5
          clear hal la lb s0 s1 sf0 sf1 t0 t1 tf0 tf1 x0 x1 x2 x3 x4 xf0 xf1 xf2 xf3 xf4
          have lx5 := kX.lt
          have la5 := kA0.lt
          have lb5 := kA1.lt
          have hzw5 := hb5.size
          have nx : ¬ w5.heap.size = w2.heap.size := by omega
          have nx2 : ¬ w2.heap.size = w5.heap.size := by omega
          have x0 : w5.cell? ⟨w2.heap.size, 0, none⟩ = some (.int .i64 y.r) := by rw [kX.cell]; rfl
          have xf0 : w5.frozen? ⟨w2.heap.size, 0, none⟩ = false := kX.free 0
          have x1 : w5.cell? ⟨w2.heap.size, 1, none⟩ = some (.int .i64 y.a) := by rw [kX.cell]; rfl
          have xf1 : w5.frozen? ⟨w2.heap.size, 1, none⟩ = false := kX.free 1
          have x2 : w5.cell? ⟨w2.heap.size, 2, none⟩ = some (.int .i64 y.b) := by rw [kX.cell]; rfl
          have xf2 : w5.frozen? ⟨w2.heap.size, 2, none⟩ = false := kX.free 2
          have x3 : w5.cell? ⟨w2.heap.size, 3, none⟩ = some (.int .i64 y.c) := by rw [kX.cell]; rfl
          have xf3 : w5.frozen? ⟨w2.heap.size, 3, none⟩ = false := kX.free 3
          have x4 : w5.cell? ⟨w2.heap.size, 4, none⟩ = some (.int .i64 y.d) := by rw [kX.cell]; rfl
          have xf4 : w5.frozen? ⟨w2.heap.size, 4, none⟩ = false := kX.free 4
          go_upto_region 15 with fail
          have hS := (hY5.setCell (p := ⟨w2.heap.size, 0, none⟩) (by simp; omega) (.int .i64 1)).alloc (by simp only [World.size_setCell]; exact hY5.size) (.cells #[.int .i64 cap, .slice A5 L.length c5] 25)
          have kX6 : Blk _ w2.heap.size 37 #[.int .i64 1, .int .i64 y.a, .int .i64 y.b, .int .i64 y.c, .int .i64 y.d] := (kX.set_ 0 (.int .i64 1)).alloc (.cells #[.int .i64 cap, .slice A5 L.length c5] 25)
          have kA6 := (kA1.far (p := ⟨w2.heap.size, 0, none⟩) (by simp; omega) (.int .i64 1)).alloc (.cells #[.int .i64 cap, .slice A5 L.length c5] 25)
          have kT6 := Blk.new_ (w5.setCell ⟨w2.heap.size, 0, none⟩ (.int .i64 1)) 25 #[.int .i64 cap, .slice A5 L.length c5] w5.heap.size (by simp)
          have own6 := own_below (ownsRow_setCell_below hrow5 (a := ⟨w2.heap.size, 0, none⟩) (by simp; omega) (.int .i64 1)) ((Below.refl _ _).alloc (Nat.le_refl _) (.cells #[.int .i64 cap, .slice A5 L.length c5] 25))
          have hz6 : ((w5.setCell ⟨w2.heap.size, 0, none⟩ (.int .i64 1)).alloc (.cells #[.int .i64 cap, .slice A5 L.length c5] 25)).heap.size = w5.heap.size + 1 := by simp
          obtain ⟨w6, hw6⟩ : ∃ z, (w5.setCell ⟨w2.heap.size, 0, none⟩ (.int .i64 1)).alloc (.cells #[.int .i64 cap, .slice A5 L.length c5] 25) = z := ⟨_, rfl⟩
          rw [hw6] at hS kX6 kA6 kT6 own6 hz6 ⊢
          clear hw6 hrow5 kX kA0 kA1 hY5 x0 x1 x2 x3 x4 xf0 xf1 xf2 xf3 xf4
          have x0 : w6.cell? ⟨w2.heap.size, 0, none⟩ = some (.int .i64 1) := by rw [kX6.cell]; rfl
          have xf0 : w6.frozen? ⟨w2.heap.size, 0, none⟩ = false := kX6.free 0
          have x1 : w6.cell? ⟨w2.heap.size, 1, none⟩ = some (.int .i64 y.a) := by rw [kX6.cell]; rfl
          have xf1 : w6.frozen? ⟨w2.heap.size, 1, none⟩ = false := kX6.free 1
          have x2 : w6.cell? ⟨w2.heap.size, 2, none⟩ = some (.int .i64 y.b) := by rw [kX6.cell]; rfl
          have xf2 : w6.frozen? ⟨w2.heap.size, 2, none⟩ = false := kX6.free 2
          have x3 : w6.cell? ⟨w2.heap.size, 3, none⟩ = some (.int .i64 y.c) := by rw [kX6.cell]; rfl
          have xf3 : w6.frozen? ⟨w2.heap.size, 3, none⟩ = false := kX6.free 3
          have x4 : w6.cell? ⟨w2.heap.size, 4, none⟩ = some (.int .i64 y.d) := by rw [kX6.cell]; rfl
          have xf4 : w6.frozen? ⟨w2.heap.size, 4, none⟩ = false := kX6.free 4
          have s0 : w6.cell? ⟨w5.heap.size, 0, none⟩ = some (.int .i64 cap) := by rw [kT6.cell]; rfl
          have sf0 : w6.frozen? ⟨w5.heap.size, 0, none⟩ = false := kT6.free 0
          have s1 : w6.cell? ⟨w5.heap.size, 1, none⟩ = some (.slice A5 L.length c5) := by rw [kT6.cell]; rfl
          have sf1 : w6.frozen? ⟨w5.heap.size, 1, none⟩ = false := kT6.free 1
          have hst6 : StV w6 (.agg #[.int .i64 cap, .slice A5 L.length c5]) cap L := ⟨_, rfl, Sl.of_own own6⟩
          go_wp2_with fail
          refine (HWITH.out L a _ ⟨1, y.a, y.b, y.c, y.d⟩ _ hst6 haL (by omega)).mono ?_
          rintro e w7 ⟨v7, rfl, hst7, hb7⟩
          obtain ⟨sv7, rfl, hrow7⟩ := hst7
          obtain ⟨A7, c7, rfl, _, _⟩ := (Sl.of_own hrow7).form
          have hlen7 : (L.set a (⟨1, y.a, y.b, y.c, y.d⟩ : Pg)).length = L.length := List.length_set
          rw [hlen7] at hrow7 ⊢
          replace hS := hS.trans (hb7.mono hS.size)
          replace kA6 := kA6.keep hb7
          replace kT6 := kT6.keep hb7
          have hz7 := hb7.size
          clear kX6 own6 hst6 x0 x1 x2 x3 x4 xf0 xf1 xf2 xf3 xf4 s0 s1 sf0 sf1
          have s0 : w7.cell? ⟨w5.heap.size, 0, none⟩ = some (.int .i64 cap) := by rw [kT6.cell]; rfl
          have sf0 : w7.frozen? ⟨w5.heap.size, 0, none⟩ = false := kT6.free 0
          have s1 : w7.cell? ⟨w5.heap.size, 1, none⟩ = some (.slice A5 L.length c5) := by rw [kT6.cell]; rfl
          have sf1 : w7.frozen? ⟨w5.heap.size, 1, none⟩ = false := kT6.free 1
          go_upto_region 16 with fail
          have hS8 := (hS.setCell (p := ⟨w5.heap.size, 0, none⟩) (by simp; omega) (.int .i64 cap)).setCell (p := ⟨w5.heap.size, 1, none⟩) (by simp; omega) (.slice A7 L.length c7)
          have kT8 : Blk _ w5.heap.size 25 #[.int .i64 cap, .slice A7 L.length c7] := (kT6.set_ 0 (.int .i64 cap)).set_ 1 (.slice A7 L.length c7)
          have kA8 := (kA6.far (p := ⟨w5.heap.size, 0, none⟩) (by simp; omega) (.int .i64 cap)).far (p := ⟨w5.heap.size, 1, none⟩) (by simp; omega) (.slice A7 L.length c7)
          have own8 := ownsRow_setCell_below (ownsRow_setCell_below hrow7 (a := ⟨w5.heap.size, 0, none⟩) (by rw [hz6]; simp) (.int .i64 cap)) (a := ⟨w5.heap.size, 1, none⟩) (by rw [hz6]; simp) (.slice A7 L.length c7)
          obtain ⟨w8, hw8⟩ : ∃ z, (w7.setCell ⟨w5.heap.size, 0, none⟩ (.int .i64 cap)).setCell ⟨w5.heap.size, 1, none⟩ (.slice A7 L.length c7) = z := ⟨_, rfl⟩
          rw [hw8] at hS8 kT8 kA8 own8 ⊢
          clear hw8 kT6 kA6 hrow7 hS s0 s1 sf0 sf1
          have lt8 := kT8.lt
          have la8 := kA8.lt
          have s0 : w8.cell? ⟨w5.heap.size, 0, none⟩ = some (.int .i64 cap) := by rw [kT8.cell]; rfl
          have sf0 : w8.frozen? ⟨w5.heap.size, 0, none⟩ = false := kT8.free 0
          have s1 : w8.cell? ⟨w5.heap.size, 1, none⟩ = some (.slice A7 L.length c7) := by rw [kT8.cell]; rfl
          have sf1 : w8.frozen? ⟨w5.heap.size, 1, none⟩ = false := kT8.free 1
          have hst8 : StV w8 (.agg #[.int .i64 cap, .slice A7 L.length c7]) cap (L.set a ⟨1, y.a, y.b, y.c, y.d⟩) := ⟨_, rfl, by rw [hlen7]; exact Sl.of_own own8⟩
          go_wp2_with fail
          refine (hfree _ _ hst8).mono ?_
          rintro e w9 ⟨v9, rfl, ⟨-, hso9⟩, hb9⟩
          obtain ⟨sv9, rfl, hrow9⟩ := hso9 rfl
          clear hso9
          dsimp only at hrow9
          obtain ⟨A9, c9, rfl, _, _⟩ := (Sl.of_own hrow9).form
          replace hS8 := hS8.trans (hb9.mono hS8.size)
          replace kA8 := kA8.keep hb9
          have la9 := kA8.lt
          clear hfree hst8 own8 kT8 s0 s1 sf0 sf1
          have t0 : w9.cell? ⟨w.heap.size + 1, 0, none⟩ = some (.int .i64 0) := by rw [kA8.cell]; rfl
          have tf0 : w9.frozen? ⟨w.heap.size + 1, 0, none⟩ = false := kA8.free 0
          have t1 : w9.cell? ⟨w.heap.size + 1, 1, none⟩ = some (.slice none 0 0) := by rw [kA8.cell]; rfl
          have tf1 : w9.frozen? ⟨w.heap.size + 1, 1, none⟩ = false := kA8.free 1
          have hL9 : freeL (L.set a ⟨1, y.a, y.b, y.c, y.d⟩) k = freeL (L.set a ⟨1, y.a, y.b, y.c, y.d⟩) k := rfl
          go_wp2
          rw [HW1.out, if_neg h3, HAX.out, if_pos rfl]
          refine bodyPost_ret (v := .tuple #[.agg #[.int .i64 cap, .slice A9 (freeL (L.set a ⟨1, y.a, y.b, y.c, y.d⟩) k).length c9], .int .i64 a, .int .i64 0]) (by simp [results, Try.results22, go_sem, t0, t1, la9]) rfl ⟨_, rfl, ?_, ?_⟩
          · exact ⟨_, rfl, Sl.of_own (own_below (ownsRow_setCell_below (ownsRow_setCell_below hrow9 (a := ⟨w.heap.size + 1, 0, none⟩) (by simp; omega) _) (a := ⟨w.heap.size + 1, 1, none⟩) (by simp; omega) _) ((Below.refl _ _).alloc (Nat.le_refl _) _))⟩
          · exact ((hS8.setCell (p := ⟨w.heap.size + 1, 0, none⟩) (by simp) _).setCell (p := ⟨w.heap.size + 1, 1, none⟩) (by simp) _).alloc (by simp only [World.size_setCell]; exact hS8.size) _
        · obtain ⟨hA0, hAx⟩ := alloc_same_err y h5
          have hal := HAL.out
          rw [hA0] at hal
          have HAX := Lib.hid hAx
          clear hA0 hAx HFREE HAL HM HHL HK2
          go_enter Try.func22, Try.ntmps22
          go_wp2_with fail
          refine (hmay _ _ (hv.sl.below hb0)).mono ?_
          rintro e w1 ⟨rfl, hb1⟩
          have hY := hb0.trans (hb1.mono (by simp; try omega))
          have kA0 : Blk w1 w.heap.size 25 #[.int .i64 cap, .slice (some ⟨b, o, none⟩) ps.length c] := ((Blk.new_ w _ _ _ rfl).alloc _).keep hb1
          have kA1 : Blk w1 (w.heap.size + 1) 25 #[.int .i64 0, .slice none 0 0] := (Blk.new_ _ _ _ _ (by simp)).keep hb1
          have la := kA0.lt
          have lb := kA1.lt
          have s0 : w1.cell? ⟨w.heap.size, 0, none⟩ = some (.int .i64 cap) := by rw [kA0.cell]; rfl
          have sf0 : w1.frozen? ⟨w.heap.size, 0, none⟩ = false := kA0.free 0
          have s1 : w1.cell? ⟨w.heap.size, 1, none⟩ = some (.slice (some ⟨b, o, none⟩) ps.length c) := by rw [kA0.cell]; rfl
          have sf1 : w1.frozen? ⟨w.heap.size, 1, none⟩ = false := kA0.free 1
          have t0 : w1.cell? ⟨w.heap.size + 1, 0, none⟩ = some (.int .i64 0) := by rw [kA1.cell]; rfl
          have tf0 : w1.frozen? ⟨w.heap.size + 1, 0, none⟩ = false := kA1.free 0
          have t1 : w1.cell? ⟨w.heap.size + 1, 1, none⟩ = some (.slice none 0 0) := by rw [kA1.cell]; rfl
          have tf1 : w1.frozen? ⟨w.heap.size + 1, 1, none⟩ = false := kA1.free 1
          go_wp2_with fail
          refine (hhad _ _ (hv.keep hY)).mono ?_
          rintro e w2 ⟨rfl, hb2⟩
          replace hY := hY.trans (hb2.mono hY.size)
          replace kA0 := kA0.keep hb2
          replace kA1 := kA1.keep hb2
          clear la lb s0 s1 sf0 sf1 t0 t1 tf0 tf1
          have la := kA0.lt
          have lb := kA1.lt
          have s0 : w2.cell? ⟨w.heap.size, 0, none⟩ = some (.int .i64 cap) := by rw [kA0.cell]; rfl
          have sf0 : w2.frozen? ⟨w.heap.size, 0, none⟩ = false := kA0.free 0
          have s1 : w2.cell? ⟨w.heap.size, 1, none⟩ = some (.slice (some ⟨b, o, none⟩) ps.length c) := by rw [kA0.cell]; rfl
          have sf1 : w2.frozen? ⟨w.heap.size, 1, none⟩ = false := kA0.free 1
          have t0 : w2.cell? ⟨w.heap.size + 1, 0, none⟩ = some (.int .i64 0) := by rw [kA1.cell]; rfl
          have tf0 : w2.frozen? ⟨w.heap.size + 1, 0, none⟩ = false := kA1.free 0
          have t1 : w2.cell? ⟨w.heap.size + 1, 1, none⟩ = some (.slice none 0 0) := by rw [kA1.cell]; rfl
          have tf1 : w2.frozen? ⟨w.heap.size + 1, 1, none⟩ = false := kA1.free 1
          have e0 := hel w2 hY 0 _ rfl
          have e1 := hel w2 hY 1 _ rfl
          have e2 := hel w2 hY 2 _ rfl
          have e3 := hel w2 hY 3 _ rfl
          have e4 := hel w2 hY 4 _ rfl
          simp only [Nat.add_zero] at e0
          have hlw : b < w2.heap.size := Nat.lt_of_lt_of_le hlt hY.size
          clear hel
          clear hmay hhad
          go_upto_region 8 with fail
          have hA1 := (Below.refl w2.heap.size w2).alloc (Nat.le_refl _) (.cells #[.int .i64 x.r, .int .i64 x.a, .int .i64 x.b, .int .i64 x.c, .int .i64 x.d] 37)
          have kX := Blk.new w2 37 #[.int .i64 x.r, .int .i64 x.a, .int .i64 x.b, .int .i64 x.c, .int .i64 x.d]
          replace kA0 := kA0.keep hA1
          replace kA1 := kA1.keep hA1
          replace hY := hY.trans (hA1.mono hY.size)
          obtain ⟨w3, hw3⟩ : ∃ z, w2.alloc (.cells #[.int .i64 x.r, .int .i64 x.a, .int .i64 x.b, .int .i64 x.c, .int .i64 x.d] 37) = z := ⟨_, rfl⟩
          rw [hw3] at kX kA0 kA1 hY ⊢
          clear hw3 hA1 la lb s0 s1 sf0 sf1 t0 t1 tf0 tf1 e0 e1 e2 e3 e4
          have kXf := kX.free (1 + m)
          obtain ⟨uu, kXc⟩ : ∃ z, w3.cell? ⟨w2.heap.size, 1 + m, none⟩ = some z := ⟨_, (kX.cell (1 + m)).trans (Array.getElem?_eq_getElem (by simp; omega))⟩
          go_upto_region 9 with fail
          have hzw := hb2.size
          have hzw1 := hb1.size
          simp only [World.size_alloc] at hzw1
          replace kX := kX.set_ (1 + m) (.int .i64 u)
          rw [HWC.out] at kX
          replace kA0 := kA0.far (p := ⟨w2.heap.size, 1 + m, none⟩) (by simp; omega) (.int .i64 u)
          replace kA1 := kA1.far (p := ⟨w2.heap.size, 1 + m, none⟩) (by simp; omega) (.int .i64 u)
          replace hY := hY.setCell (p := ⟨w2.heap.size, 1 + m, none⟩) (by simp; omega) (.int .i64 u)
          obtain ⟨w4, hw4⟩ : ∃ z, w3.setCell ⟨w2.heap.size, 1 + m, none⟩ (.int .i64 u) = z := ⟨_, rfl⟩
          rw [hw4] at kX kA0 kA1 hY ⊢
          clear hw4 kXf kXc
          have la := kA0.lt
          have lb := kA1.lt
          have lx := kX.lt
          have s0 : w4.cell? ⟨w.heap.size, 0, none⟩ = some (.int .i64 cap) := by rw [kA0.cell]; rfl
          have sf0 : w4.frozen? ⟨w.heap.size, 0, none⟩ = false := kA0.free 0
          have s1 : w4.cell? ⟨w.heap.size, 1, none⟩ = some (.slice (some ⟨b, o, none⟩) ps.length c) := by rw [kA0.cell]; rfl
          have sf1 : w4.frozen? ⟨w.heap.size, 1, none⟩ = false := kA0.free 1
          have t0 : w4.cell? ⟨w.heap.size + 1, 0, none⟩ = some (.int .i64 0) := by rw [kA1.cell]; rfl
          have tf0 : w4.frozen? ⟨w.heap.size + 1, 0, none⟩ = false := kA1.free 0
          have t1 : w4.cell? ⟨w.heap.size + 1, 1, none⟩ = some (.slice none 0 0) := by rw [kA1.cell]; rfl
          have tf1 : w4.frozen? ⟨w.heap.size + 1, 1, none⟩ = false := kA1.free 1
          have x0 : w4.cell? ⟨w2.heap.size, 0, none⟩ = some (.int .i64 y.r) := by rw [kX.cell]; rfl
          have xf0 : w4.frozen? ⟨w2.heap.size, 0, none⟩ = false := kX.free 0
          have x1 : w4.cell? ⟨w2.heap.size, 1, none⟩ = some (.int .i64 y.a) := by rw [kX.cell]; rfl
          have xf1 : w4.frozen? ⟨w2.heap.size, 1, none⟩ = false := kX.free 1
          have x2 : w4.cell? ⟨w2.heap.size, 2, none⟩ = some (.int .i64 y.b) := by rw [kX.cell]; rfl
          have xf2 : w4.frozen? ⟨w2.heap.size, 2, none⟩ = false := kX.free 2
          have x3 : w4.cell? ⟨w2.heap.size, 3, none⟩ = some (.int .i64 y.c) := by rw [kX.cell]; rfl
          have xf3 : w4.frozen? ⟨w2.heap.size, 3, none⟩ = false := kX.free 3
          have x4 : w4.cell? ⟨w2.heap.size, 4, none⟩ = some (.int .i64 y.d) := by rw [kX.cell]; rfl
          have xf4 : w4.frozen? ⟨w2.heap.size, 4, none⟩ = false := kX.free 4
          go_wp2_with fail
          refine (hal _ _ (hv.keep hY)).mono ?_
          rintro e w5 ⟨v5, rfl, ⟨hst5, -⟩, hb5⟩
          dsimp only at hst5
          obtain ⟨A5, c5, rfl, hst5⟩ := hst5.form
          have hY5 := hY.trans (hb5.mono hY.size)
          replace kA0 := kA0.keep hb5
          replace kA1 := kA1.keep hb5
          clear hal la lb s0 s1 sf0 sf1 t0 t1 tf0 tf1 x0 x1 x2 x3 x4 xf0 xf1 xf2 xf3 xf4
          have la5 := kA0.lt
          have lb5 := kA1.lt
          have s0 : w5.cell? ⟨w.heap.size, 0, none⟩ = some (.int .i64 cap) := by rw [kA0.cell]; rfl
          have sf0 : w5.frozen? ⟨w.heap.size, 0, none⟩ = false := kA0.free 0
          have s1 : w5.cell? ⟨w.heap.size, 1, none⟩ = some (.slice (some ⟨b, o, none⟩) ps.length c) := by rw [kA0.cell]; rfl
          have sf1 : w5.frozen? ⟨w.heap.size, 1, none⟩ = false := kA0.free 1
          have t0 : w5.cell? ⟨w.heap.size + 1, 0, none⟩ = some (.int .i64 0) := by rw [kA1.cell]; rfl
          have tf0 : w5.frozen? ⟨w.heap.size + 1, 0, none⟩ = false := kA1.free 0
          have t1 : w5.cell? ⟨w.heap.size + 1, 1, none⟩ = some (.slice none 0 0) := by rw [kA1.cell]; rfl
          have tf1 : w5.frozen? ⟨w.heap.size + 1, 1, none⟩ = false := kA1.free 1
          go_wp2
          rw [HW1.out, if_neg h3, HAX.out, if_neg (by simp)]
          refine bodyPost_ret (v := .tuple #[.agg #[.int .i64 cap, .slice (some ⟨b, o, none⟩) ps.length c], .int .i64 (-1), .int .i64 8]) (by simp [results, Try.results22, go_sem, t0, t1, lb5]) rfl ⟨_, rfl, ?_, ?_⟩
          · exact hv.keep (((hY5.setCell (p := ⟨w.heap.size + 1, 0, none⟩) (by simp) _).setCell (p := ⟨w.heap.size + 1, 1, none⟩) (by simp) _).alloc (by simp only [World.size_setCell]; exact hY5.size) _)
          · exact ((hY5.setCell (p := ⟨w.heap.size + 1, 0, none⟩) (by simp) _).setCell (p := ⟨w.heap.size + 1, 1, none⟩) (by simp) _).alloc (by simp only [World.size_setCell]; exact hY5.size) _
end Go.Proofs.Ytelfkopoppfaaaa
