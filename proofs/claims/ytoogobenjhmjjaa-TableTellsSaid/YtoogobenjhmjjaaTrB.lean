/- Several texts in one: TrWrite, TrSame, TrInts, TrSameH, TrStands. -/
import Derived.Test.YtoogobenjhmjjaaTrA
namespace Go.Proofs.Ytoogobenjhmjjaa
open Go Go.RowKit
set_option linter.unusedVariables false
attribute [local go_sem ↓] Go.wp_at_zero Go.wp_at_succ

def RefW (cap : Int) (r : Int × Int × List Pg) (w : World) (e : Ending) (w' : World) : Prop :=
  ∃ v', e = .returned (.tuple #[v', .int .i64 r.1, .int .i64 r.2.1]) ∧ (StV w' v' cap r.2.2 ∧ (r.2.1 = 0 → StO w' w.heap.size v' cap r.2.2)) ∧ Below w.heap.size w w'

theorem wset_cells (x : Pg) (m : Nat) (v : Int) (hm : m < 4) : (#[Value.int .i64 x.r, .int .i64 x.a, .int .i64 x.b, .int .i64 x.c, .int .i64 x.d] : Array Value).setIfInBounds (1 + m) (.int .i64 v) = #[.int .i64 (wset x m v).r, .int .i64 (wset x m v).a, .int .i64 (wset x m v).b, .int .i64 (wset x m v).c, .int .i64 (wset x m v).d] := by
  obtain rfl | rfl | rfl | rfl : m = 0 ∨ m = 1 ∨ m = 2 ∨ m = 3 := by omega
  all_goals rfl

/-- What alloc does is the same for every page, but for that page. -/
theorem alloc_other {cap : Int} {ps : List Pg} (x : Pg) (h : (allocL cap ps ⟨0, 0, 0, 0, 0⟩).2.1 = 0) :
    ∃ (a : Nat) (L : List Pg), allocL cap ps ⟨0, 0, 0, 0, 0⟩ = ((a : Int), 0, L) ∧ a < L.length ∧ L.length ≤ ps.length + 1 ∧ allocL cap ps x = ((a : Int), 0, L.set a { x with r := 1 }) := by
  unfold allocL at *
  rcases idxF_range freeP ps with h5 | ⟨k, hk, h5⟩
  · rw [if_pos h5] at h ⊢
    rw [if_pos h5]
    by_cases h6 : (ps.length : Int) = cap
    · rw [if_pos h6] at h; cases h
    · rw [if_neg h6, if_neg h6]
      refine ⟨ps.length, _, rfl, by simp, by simp, ?_⟩
      rw [List.set_append_right _ _ (Nat.le_refl _)]
      simp
  · rw [if_neg (by omega), if_neg (by omega)]
    refine ⟨k, _, by rw [h5], by simpa using hk, by simp, ?_⟩
    rw [h5]
    simp
theorem alloc_same_err {cap : Int} {ps : List Pg} (x : Pg) (h : (allocL cap ps ⟨0, 0, 0, 0, 0⟩).2.1 ≠ 0) : allocL cap ps ⟨0, 0, 0, 0, 0⟩ = (-1, 8, ps) ∧ allocL cap ps x = (-1, 8, ps) := by
  refine ⟨allocL_err h, allocL_err ?_⟩
  unfold allocL at *
  rcases idxF_range freeP ps with h5 | ⟨k, hk, h5⟩
  · rw [if_pos h5] at h ⊢
    by_cases h6 : (ps.length : Int) = cap
    · rw [if_pos h6]; simp
    · rw [if_neg h6] at h; exact absurd rfl h
  · rw [if_neg (by omega)] at h
    exact absurd rfl h

set_option maxRecDepth 100000 in
set_option maxHeartbeats 8000000 in
theorem RWrite_any (v : Value) (cap p i u : Int) (ps : List Pg) (w : World) (hv : StV w v cap ps) (hn : ps.length ≤ 999) :
    Calls Try.prog 41 #[v, .int .i64 p, .int .i64 i, .int .i64 u] w (RefW cap (writeL cap ps p i u) w) := by
  obtain ⟨A, c, rfl, hv⟩ := hv.form
  have hb0 : Below w.heap.size w ((w.alloc (.cells #[.int .i64 cap, .slice A ps.length c] 25)).alloc (.cells #[.int .i64 0, .slice none 0 0] 25)) := ((Below.refl _ w).alloc (Nat.le_refl _) _).alloc (by simp) _
  have hmay := fun sv W h => rmay_any cap sv ps W h
  have hhad := fun v W h => rhad_any v cap p ps W h
  cases hm : mayP cap ps with
  | false =>
    rw [show writeL cap ps p i u = (-1, 1, ps) from by simp [writeL, hadL, hm]]
    rw [hm] at hmay
    clear hm
    go_enter Try.func41, Try.ntmps41
    go_wp2_with fail
    refine (hmay _ _ (hv.sl.below hb0)).mono ?_
    rintro e w1 ⟨rfl, hb1⟩
    have hY := hb0.trans (hb1.mono (by simp; try omega))
    have kA0 : Blk w1 w.heap.size 25 #[.int .i64 cap, .slice A ps.length c] := ((Blk.new_ w _ _ _ rfl).alloc _).keep hb1
    have kA1 : Blk w1 (w.heap.size + 1) 25 #[.int .i64 0, .slice none 0 0] := (Blk.new_ _ _ _ _ (by simp)).keep hb1
    have la := kA0.lt
    have lb := kA1.lt
    have s0 : w1.cell? ⟨w.heap.size, 0, none⟩ = some (.int .i64 cap) := by rw [kA0.cell]; rfl
    have sf0 : w1.frozen? ⟨w.heap.size, 0, none⟩ = false := kA0.free 0
    have s1 : w1.cell? ⟨w.heap.size, 1, none⟩ = some (.slice A ps.length c) := by rw [kA0.cell]; rfl
    have sf1 : w1.frozen? ⟨w.heap.size, 1, none⟩ = false := kA0.free 1
    have t0 : w1.cell? ⟨w.heap.size + 1, 0, none⟩ = some (.int .i64 0) := by rw [kA1.cell]; rfl
    have tf0 : w1.frozen? ⟨w.heap.size + 1, 0, none⟩ = false := kA1.free 0
    have t1 : w1.cell? ⟨w.heap.size + 1, 1, none⟩ = some (.slice none 0 0) := by rw [kA1.cell]; rfl
    have tf1 : w1.frozen? ⟨w.heap.size + 1, 1, none⟩ = false := kA1.free 1
    go_wp2
    refine bodyPost_ret (v := .tuple #[.agg #[.int .i64 cap, .slice A ps.length c], .int .i64 (-1), .int .i64 1]) (by simp [results, Try.results41, go_sem, t0, t1]) rfl ⟨_, rfl, ?_, ?_⟩
    · exact ⟨hv.keep ((hY.setCell (p := ⟨w.heap.size + 1, 0, none⟩) (by simp) _).setCell (p := ⟨w.heap.size + 1, 1, none⟩) (by simp) _), fun h => by simp at h⟩
    · exact (hY.setCell (p := ⟨w.heap.size + 1, 0, none⟩) (by simp) _).setCell (p := ⟨w.heap.size + 1, 1, none⟩) (by simp) _
  | true =>
    rw [hm] at hmay
    have hhl := had_ref (p := p) hm
    cases hr : hadR ps p with
    | false =>
      rw [hr] at hhad hhl
      rw [show writeL cap ps p i u = (-1, 11, ps) from by simp [writeL, hhl]]
      clear hm hr hhl
      go_enter Try.func41, Try.ntmps41
      go_wp2_with fail
      refine (hmay _ _ (hv.sl.below hb0)).mono ?_
      rintro e w1 ⟨rfl, hb1⟩
      have hY := hb0.trans (hb1.mono (by simp; try omega))
      have kA0 : Blk w1 w.heap.size 25 #[.int .i64 cap, .slice A ps.length c] := ((Blk.new_ w _ _ _ rfl).alloc _).keep hb1
      have kA1 : Blk w1 (w.heap.size + 1) 25 #[.int .i64 0, .slice none 0 0] := (Blk.new_ _ _ _ _ (by simp)).keep hb1
      have la := kA0.lt
      have lb := kA1.lt
      have s0 : w1.cell? ⟨w.heap.size, 0, none⟩ = some (.int .i64 cap) := by rw [kA0.cell]; rfl
      have sf0 : w1.frozen? ⟨w.heap.size, 0, none⟩ = false := kA0.free 0
      have s1 : w1.cell? ⟨w.heap.size, 1, none⟩ = some (.slice A ps.length c) := by rw [kA0.cell]; rfl
      have sf1 : w1.frozen? ⟨w.heap.size, 1, none⟩ = false := kA0.free 1
      have t0 : w1.cell? ⟨w.heap.size + 1, 0, none⟩ = some (.int .i64 0) := by rw [kA1.cell]; rfl
      have tf0 : w1.frozen? ⟨w.heap.size + 1, 0, none⟩ = false := kA1.free 0
      have t1 : w1.cell? ⟨w.heap.size + 1, 1, none⟩ = some (.slice none 0 0) := by rw [kA1.cell]; rfl
      have tf1 : w1.frozen? ⟨w.heap.size + 1, 1, none⟩ = false := kA1.free 1
      go_wp2_with fail
      refine (hhad _ _ (hv.keep hY)).mono ?_
      rintro e w2 ⟨rfl, hb2⟩
      replace hY := hY.trans (hb2.mono hY.size)
      replace kA0 := kA0.keep hb2
      replace kA1 := kA1.keep hb2
      clear la lb s0 s1 sf0 sf1 t0 t1 tf0 tf1
      have la := kA0.lt
      have lb := kA1.lt
      have s0 : w2.cell? ⟨w.heap.size, 0, none⟩ = some (.int .i64 cap) := by rw [kA0.cell]; rfl
      have sf0 : w2.frozen? ⟨w.heap.size, 0, none⟩ = false := kA0.free 0
      have s1 : w2.cell? ⟨w.heap.size, 1, none⟩ = some (.slice A ps.length c) := by rw [kA0.cell]; rfl
      have sf1 : w2.frozen? ⟨w.heap.size, 1, none⟩ = false := kA0.free 1
      have t0 : w2.cell? ⟨w.heap.size + 1, 0, none⟩ = some (.int .i64 0) := by rw [kA1.cell]; rfl
      have tf0 : w2.frozen? ⟨w.heap.size + 1, 0, none⟩ = false := kA1.free 0
      have t1 : w2.cell? ⟨w.heap.size + 1, 1, none⟩ = some (.slice none 0 0) := by rw [kA1.cell]; rfl
      have tf1 : w2.frozen? ⟨w.heap.size + 1, 1, none⟩ = false := kA1.free 1
      go_wp2
      refine bodyPost_ret (v := .tuple #[.agg #[.int .i64 cap, .slice A ps.length c], .int .i64 (-1), .int .i64 11]) (by simp [results, Try.results41, go_sem, t0, t1]) rfl ⟨_, rfl, ?_, ?_⟩
      · exact ⟨hv.keep ((hY.setCell (p := ⟨w.heap.size + 1, 0, none⟩) (by simp) _).setCell (p := ⟨w.heap.size + 1, 1, none⟩) (by simp) _), fun h => by simp at h⟩
      · exact (hY.setCell (p := ⟨w.heap.size + 1, 0, none⟩) (by simp) _).setCell (p := ⟨w.heap.size + 1, 1, none⟩) (by simp) _
    | true =>
      rw [hr] at hhad hhl
      simp only [if_true] at hhl
      by_cases h1 : i < 0
      · rw [show writeL cap ps p i u = (-1, 11, ps) from by unfold writeL; rw [if_pos hhl, if_neg (by omega)]]
        clear hm hr hhl
        go_enter Try.func41, Try.ntmps41
        go_wp2_with fail
        refine (hmay _ _ (hv.sl.below hb0)).mono ?_
        rintro e w1 ⟨rfl, hb1⟩
        have hY := hb0.trans (hb1.mono (by simp; try omega))
        have kA0 : Blk w1 w.heap.size 25 #[.int .i64 cap, .slice A ps.length c] := ((Blk.new_ w _ _ _ rfl).alloc _).keep hb1
        have kA1 : Blk w1 (w.heap.size + 1) 25 #[.int .i64 0, .slice none 0 0] := (Blk.new_ _ _ _ _ (by simp)).keep hb1
        have la := kA0.lt
        have lb := kA1.lt
        have s0 : w1.cell? ⟨w.heap.size, 0, none⟩ = some (.int .i64 cap) := by rw [kA0.cell]; rfl
        have sf0 : w1.frozen? ⟨w.heap.size, 0, none⟩ = false := kA0.free 0
        have s1 : w1.cell? ⟨w.heap.size, 1, none⟩ = some (.slice A ps.length c) := by rw [kA0.cell]; rfl
        have sf1 : w1.frozen? ⟨w.heap.size, 1, none⟩ = false := kA0.free 1
        have t0 : w1.cell? ⟨w.heap.size + 1, 0, none⟩ = some (.int .i64 0) := by rw [kA1.cell]; rfl
        have tf0 : w1.frozen? ⟨w.heap.size + 1, 0, none⟩ = false := kA1.free 0
        have t1 : w1.cell? ⟨w.heap.size + 1, 1, none⟩ = some (.slice none 0 0) := by rw [kA1.cell]; rfl
        have tf1 : w1.frozen? ⟨w.heap.size + 1, 1, none⟩ = false := kA1.free 1
        go_wp2_with fail
        refine (hhad _ _ (hv.keep hY)).mono ?_
        rintro e w2 ⟨rfl, hb2⟩
        replace hY := hY.trans (hb2.mono hY.size)
        replace kA0 := kA0.keep hb2
        replace kA1 := kA1.keep hb2
        clear la lb s0 s1 sf0 sf1 t0 t1 tf0 tf1
        have la := kA0.lt
        have lb := kA1.lt
        have s0 : w2.cell? ⟨w.heap.size, 0, none⟩ = some (.int .i64 cap) := by rw [kA0.cell]; rfl
        have sf0 : w2.frozen? ⟨w.heap.size, 0, none⟩ = false := kA0.free 0
        have s1 : w2.cell? ⟨w.heap.size, 1, none⟩ = some (.slice A ps.length c) := by rw [kA0.cell]; rfl
        have sf1 : w2.frozen? ⟨w.heap.size, 1, none⟩ = false := kA0.free 1
        have t0 : w2.cell? ⟨w.heap.size + 1, 0, none⟩ = some (.int .i64 0) := by rw [kA1.cell]; rfl
        have tf0 : w2.frozen? ⟨w.heap.size + 1, 0, none⟩ = false := kA1.free 0
        have t1 : w2.cell? ⟨w.heap.size + 1, 1, none⟩ = some (.slice none 0 0) := by rw [kA1.cell]; rfl
        have tf1 : w2.frozen? ⟨w.heap.size + 1, 1, none⟩ = false := kA1.free 1
        go_wp2
        refine bodyPost_ret (v := .tuple #[.agg #[.int .i64 cap, .slice A ps.length c], .int .i64 (-1), .int .i64 11]) (by simp [results, Try.results41, go_sem, t0, t1]) rfl ⟨_, rfl, ?_, ?_⟩
        · exact ⟨hv.keep ((hY.setCell (p := ⟨w.heap.size + 1, 0, none⟩) (by simp) _).setCell (p := ⟨w.heap.size + 1, 1, none⟩) (by simp) _), fun h => by simp at h⟩
        · exact (hY.setCell (p := ⟨w.heap.size + 1, 0, none⟩) (by simp) _).setCell (p := ⟨w.heap.size + 1, 1, none⟩) (by simp) _
      by_cases h2 : 4 ≤ i
      · rw [show writeL cap ps p i u = (-1, 11, ps) from by unfold writeL; rw [if_pos hhl, if_neg (by omega)]]
        clear hm hr hhl
        go_enter Try.func41, Try.ntmps41
        go_wp2_with fail
        refine (hmay _ _ (hv.sl.below hb0)).mono ?_
        rintro e w1 ⟨rfl, hb1⟩
        have hY := hb0.trans (hb1.mono (by simp; try omega))
        have kA0 : Blk w1 w.heap.size 25 #[.int .i64 cap, .slice A ps.length c] := ((Blk.new_ w _ _ _ rfl).alloc _).keep hb1
        have kA1 : Blk w1 (w.heap.size + 1) 25 #[.int .i64 0, .slice none 0 0] := (Blk.new_ _ _ _ _ (by simp)).keep hb1
        have la := kA0.lt
        have lb := kA1.lt
        have s0 : w1.cell? ⟨w.heap.size, 0, none⟩ = some (.int .i64 cap) := by rw [kA0.cell]; rfl
        have sf0 : w1.frozen? ⟨w.heap.size, 0, none⟩ = false := kA0.free 0
        have s1 : w1.cell? ⟨w.heap.size, 1, none⟩ = some (.slice A ps.length c) := by rw [kA0.cell]; rfl
        have sf1 : w1.frozen? ⟨w.heap.size, 1, none⟩ = false := kA0.free 1
        have t0 : w1.cell? ⟨w.heap.size + 1, 0, none⟩ = some (.int .i64 0) := by rw [kA1.cell]; rfl
        have tf0 : w1.frozen? ⟨w.heap.size + 1, 0, none⟩ = false := kA1.free 0
        have t1 : w1.cell? ⟨w.heap.size + 1, 1, none⟩ = some (.slice none 0 0) := by rw [kA1.cell]; rfl
        have tf1 : w1.frozen? ⟨w.heap.size + 1, 1, none⟩ = false := kA1.free 1
        go_wp2_with fail
        refine (hhad _ _ (hv.keep hY)).mono ?_
        rintro e w2 ⟨rfl, hb2⟩
        replace hY := hY.trans (hb2.mono hY.size)
        replace kA0 := kA0.keep hb2
        replace kA1 := kA1.keep hb2
        clear la lb s0 s1 sf0 sf1 t0 t1 tf0 tf1
        have la := kA0.lt
        have lb := kA1.lt
        have s0 : w2.cell? ⟨w.heap.size, 0, none⟩ = some (.int .i64 cap) := by rw [kA0.cell]; rfl
        have sf0 : w2.frozen? ⟨w.heap.size, 0, none⟩ = false := kA0.free 0
        have s1 : w2.cell? ⟨w.heap.size, 1, none⟩ = some (.slice A ps.length c) := by rw [kA0.cell]; rfl
        have sf1 : w2.frozen? ⟨w.heap.size, 1, none⟩ = false := kA0.free 1
        have t0 : w2.cell? ⟨w.heap.size + 1, 0, none⟩ = some (.int .i64 0) := by rw [kA1.cell]; rfl
        have tf0 : w2.frozen? ⟨w.heap.size + 1, 0, none⟩ = false := kA1.free 0
        have t1 : w2.cell? ⟨w.heap.size + 1, 1, none⟩ = some (.slice none 0 0) := by rw [kA1.cell]; rfl
        have tf1 : w2.frozen? ⟨w.heap.size + 1, 1, none⟩ = false := kA1.free 1
        go_wp2
        refine bodyPost_ret (v := .tuple #[.agg #[.int .i64 cap, .slice A ps.length c], .int .i64 (-1), .int .i64 11]) (by simp [results, Try.results41, go_sem, t0, t1]) rfl ⟨_, rfl, ?_, ?_⟩
        · exact ⟨hv.keep ((hY.setCell (p := ⟨w.heap.size + 1, 0, none⟩) (by simp) _).setCell (p := ⟨w.heap.size + 1, 1, none⟩) (by simp) _), fun h => by simp at h⟩
        · exact (hY.setCell (p := ⟨w.heap.size + 1, 0, none⟩) (by simp) _).setCell (p := ⟨w.heap.size + 1, 1, none⟩) (by simp) _
      obtain ⟨m, rfl⟩ := Int.eq_ofNat_of_zero_le (Int.not_lt.1 h1)
      have hm4 : m < 4 := by omega
      have hm0 : (0 : Int) ≤ (m : Int) := by omega
      have hm1 : (m : Int) < 4 := by omega
      obtain ⟨k, rfl, hk, hr0⟩ := hadR_ok hr
      have hr1 := (odd_bounds (may_odd hm k hk)).2
      have hk0 : (0 : Int) ≤ (k : Int) := by omega
      have hk1 : (k : Int) < (ps.length : Int) := by omega
      have hwith := fun (qs : List Pg) (a : Nat) v y W h hk hn => with_any v cap a y qs W h hk hn
      have hal := fun v W h => RAlloc_any v cap ps W h (by omega)
      rw [show allocX cap ps = allocL cap ps ⟨0, 0, 0, 0, 0⟩ from by simp [allocX, hm]] at hal
      have hfree := fun v qs W h hn => RFree_any v cap k qs W h hn
      obtain ⟨b, o, rfl, hlt, hel⟩ := Sl.pos encP encP_len hv.sl (by omega)
      have hel := fun W hW => hel W hW k hk
      simp only [encP] at hwith
      have hwc := wset_cells ps[k] m u hm4
      have hyr := wset_r ps[k] m u
      have hW1 : writeL cap ps k m u = if ps[k].r = 1 then ((k : Int), 0, ps.set k (wset ps[k] m u)) else (if (allocL cap ps (wset ps[k] m u)).2.1 = 0 then ((allocL cap ps (wset ps[k] m u)).1, 0, freeL (allocL cap ps (wset ps[k] m u)).2.2 k) else allocL cap ps (wset ps[k] m u)) := by
        unfold writeL
        rw [if_pos hhl, if_pos ⟨hm0, by omega⟩, pgAt_get hk]
        rfl
      have hk2 : ps[k]? = some ps[k] := List.getElem?_eq_getElem hk
      obtain ⟨x, hx⟩ : ∃ x, ps[k] = x := ⟨_, rfl⟩
      rw [hx] at hW1 hyr hwc hk2 hr0 hr1
      have hel : ∀ W, Below w.heap.size w W → ∀ i u, (encP x)[i]? = some u → W.cell? ⟨b, o + k * 5 + i, none⟩ = some u := by rw [← hx]; exact hel
      obtain ⟨y, hy⟩ : ∃ y, wset x m u = y := ⟨_, rfl⟩
      rw [hy] at hW1 hyr hwc
      have HW1 := Lib.hid hW1
      have HYR := Lib.hid hyr
      have HWC := Lib.hid hwc
      have HM := Lib.hid hm
      have HHL := Lib.hid hhl
      have HK2 := Lib.hid hk2
      have HWITH := Lib.hid hwith
      have HAL := Lib.hid hal
      have HFREE := Lib.hid hfree
      clear hW1 hwc hyr hm hhl hr hx hy hk2 hwith hal hfree
      by_cases h3 : x.r = 1
      · have h3' : (y.r == 1) = true := by rw [HYR.out]; simpa using h3
        have H3 := Lib.hid h3
        clear h3
        go_enter Try.func41, Try.ntmps41
        go_wp2_with fail
        refine (hmay _ _ (hv.sl.below hb0)).mono ?_
        rintro e w1 ⟨rfl, hb1⟩
        have hY := hb0.trans (hb1.mono (by simp; try omega))
        have kA0 : Blk w1 w.heap.size 25 #[.int .i64 cap, .slice (some ⟨b, o, none⟩) ps.length c] := ((Blk.new_ w _ _ _ rfl).alloc _).keep hb1
        have kA1 : Blk w1 (w.heap.size + 1) 25 #[.int .i64 0, .slice none 0 0] := (Blk.new_ _ _ _ _ (by simp)).keep hb1
        have la := kA0.lt
        have lb := kA1.lt
        have s0 : w1.cell? ⟨w.heap.size, 0, none⟩ = some (.int .i64 cap) := by rw [kA0.cell]; rfl
        have sf0 : w1.frozen? ⟨w.heap.size, 0, none⟩ = false := kA0.free 0
        have s1 : w1.cell? ⟨w.heap.size, 1, none⟩ = some (.slice (some ⟨b, o, none⟩) ps.length c) := by rw [kA0.cell]; rfl
        have sf1 : w1.frozen? ⟨w.heap.size, 1, none⟩ = false := kA0.free 1
        have t0 : w1.cell? ⟨w.heap.size + 1, 0, none⟩ = some (.int .i64 0) := by rw [kA1.cell]; rfl
        have tf0 : w1.frozen? ⟨w.heap.size + 1, 0, none⟩ = false := kA1.free 0
        have t1 : w1.cell? ⟨w.heap.size + 1, 1, none⟩ = some (.slice none 0 0) := by rw [kA1.cell]; rfl
        have tf1 : w1.frozen? ⟨w.heap.size + 1, 1, none⟩ = false := kA1.free 1
        go_wp2_with fail
        refine (hhad _ _ (hv.keep hY)).mono ?_
        rintro e w2 ⟨rfl, hb2⟩
        replace hY := hY.trans (hb2.mono hY.size)
        replace kA0 := kA0.keep hb2
        replace kA1 := kA1.keep hb2
        clear la lb s0 s1 sf0 sf1 t0 t1 tf0 tf1
        have la := kA0.lt
        have lb := kA1.lt
        have s0 : w2.cell? ⟨w.heap.size, 0, none⟩ = some (.int .i64 cap) := by rw [kA0.cell]; rfl
        have sf0 : w2.frozen? ⟨w.heap.size, 0, none⟩ = false := kA0.free 0
        have s1 : w2.cell? ⟨w.heap.size, 1, none⟩ = some (.slice (some ⟨b, o, none⟩) ps.length c) := by rw [kA0.cell]; rfl
        have sf1 : w2.frozen? ⟨w.heap.size, 1, none⟩ = false := kA0.free 1
        have t0 : w2.cell? ⟨w.heap.size + 1, 0, none⟩ = some (.int .i64 0) := by rw [kA1.cell]; rfl
        have tf0 : w2.frozen? ⟨w.heap.size + 1, 0, none⟩ = false := kA1.free 0
        have t1 : w2.cell? ⟨w.heap.size + 1, 1, none⟩ = some (.slice none 0 0) := by rw [kA1.cell]; rfl
        have tf1 : w2.frozen? ⟨w.heap.size + 1, 1, none⟩ = false := kA1.free 1
        have e0 := hel w2 hY 0 _ rfl
        have e1 := hel w2 hY 1 _ rfl
        have e2 := hel w2 hY 2 _ rfl
        have e3 := hel w2 hY 3 _ rfl
        have e4 := hel w2 hY 4 _ rfl
        simp only [Nat.add_zero] at e0
        have hlw : b < w2.heap.size := Nat.lt_of_lt_of_le hlt hY.size
        clear hel
        clear hmay hhad
        go_upto_region 8 with fail
        have hA1 := (Below.refl w2.heap.size w2).alloc (Nat.le_refl _) (.cells #[.int .i64 x.r, .int .i64 x.a, .int .i64 x.b, .int .i64 x.c, .int .i64 x.d] 54)
        have kX := Blk.new w2 54 #[.int .i64 x.r, .int .i64 x.a, .int .i64 x.b, .int .i64 x.c, .int .i64 x.d]
        replace kA0 := kA0.keep hA1
        replace kA1 := kA1.keep hA1
        replace hY := hY.trans (hA1.mono hY.size)
        obtain ⟨w3, hw3⟩ : ∃ z, w2.alloc (.cells #[.int .i64 x.r, .int .i64 x.a, .int .i64 x.b, .int .i64 x.c, .int .i64 x.d] 54) = z := ⟨_, rfl⟩
        rw [hw3] at kX kA0 kA1 hY ⊢
        clear hw3 hA1 la lb s0 s1 sf0 sf1 t0 t1 tf0 tf1 e0 e1 e2 e3 e4
        have kXf := kX.free (1 + m)
        obtain ⟨uu, kXc⟩ : ∃ z, w3.cell? ⟨w2.heap.size, 1 + m, none⟩ = some z := ⟨_, (kX.cell (1 + m)).trans (Array.getElem?_eq_getElem (by simp; omega))⟩
        go_upto_region 9 with fail
        have hzw := hb2.size
        have hzw1 := hb1.size
        simp only [World.size_alloc] at hzw1
        replace kX := kX.set_ (1 + m) (.int .i64 u)
        rw [HWC.out] at kX
        replace kA0 := kA0.far (p := ⟨w2.heap.size, 1 + m, none⟩) (by simp; omega) (.int .i64 u)
        replace kA1 := kA1.far (p := ⟨w2.heap.size, 1 + m, none⟩) (by simp; omega) (.int .i64 u)
        replace hY := hY.setCell (p := ⟨w2.heap.size, 1 + m, none⟩) (by simp; omega) (.int .i64 u)
        obtain ⟨w4, hw4⟩ : ∃ z, w3.setCell ⟨w2.heap.size, 1 + m, none⟩ (.int .i64 u) = z := ⟨_, rfl⟩
        rw [hw4] at kX kA0 kA1 hY ⊢
        clear hw4 kXf kXc
        have la := kA0.lt
        have lb := kA1.lt
        have lx := kX.lt
        have s0 : w4.cell? ⟨w.heap.size, 0, none⟩ = some (.int .i64 cap) := by rw [kA0.cell]; rfl
        have sf0 : w4.frozen? ⟨w.heap.size, 0, none⟩ = false := kA0.free 0
        have s1 : w4.cell? ⟨w.heap.size, 1, none⟩ = some (.slice (some ⟨b, o, none⟩) ps.length c) := by rw [kA0.cell]; rfl
        have sf1 : w4.frozen? ⟨w.heap.size, 1, none⟩ = false := kA0.free 1
        have t0 : w4.cell? ⟨w.heap.size + 1, 0, none⟩ = some (.int .i64 0) := by rw [kA1.cell]; rfl
        have tf0 : w4.frozen? ⟨w.heap.size + 1, 0, none⟩ = false := kA1.free 0
        have t1 : w4.cell? ⟨w.heap.size + 1, 1, none⟩ = some (.slice none 0 0) := by rw [kA1.cell]; rfl
        have tf1 : w4.frozen? ⟨w.heap.size + 1, 1, none⟩ = false := kA1.free 1
        have x0 : w4.cell? ⟨w2.heap.size, 0, none⟩ = some (.int .i64 y.r) := by rw [kX.cell]; rfl
        have xf0 : w4.frozen? ⟨w2.heap.size, 0, none⟩ = false := kX.free 0
        have x1 : w4.cell? ⟨w2.heap.size, 1, none⟩ = some (.int .i64 y.a) := by rw [kX.cell]; rfl
        have xf1 : w4.frozen? ⟨w2.heap.size, 1, none⟩ = false := kX.free 1
        have x2 : w4.cell? ⟨w2.heap.size, 2, none⟩ = some (.int .i64 y.b) := by rw [kX.cell]; rfl
        have xf2 : w4.frozen? ⟨w2.heap.size, 2, none⟩ = false := kX.free 2
        have x3 : w4.cell? ⟨w2.heap.size, 3, none⟩ = some (.int .i64 y.c) := by rw [kX.cell]; rfl
        have xf3 : w4.frozen? ⟨w2.heap.size, 3, none⟩ = false := kX.free 3
        have x4 : w4.cell? ⟨w2.heap.size, 4, none⟩ = some (.int .i64 y.d) := by rw [kX.cell]; rfl
        have xf4 : w4.frozen? ⟨w2.heap.size, 4, none⟩ = false := kX.free 4
        go_wp2_with fail
        refine (HWITH.out ps k _ y _ (hv.keep hY) hk (by omega)).mono ?_
        rintro e w5 ⟨v5, rfl, hst5, hb5⟩
        have hY5 := hY.trans (hb5.mono hY.size)
        have kB1 := kA1.keep hb5
        obtain ⟨sv5, rfl, hrow5⟩ := hst5
        rw [List.length_set] at hrow5
        obtain ⟨A5, c5, rfl, _, _⟩ := (Sl.of_own hrow5).form
        clear kA0 kA1 s0 s1 sf0 sf1 t0 t1 tf0 tf1
        have t0 : w5.cell? ⟨w.heap.size + 1, 0, none⟩ = some (.int .i64 0) := by rw [kB1.cell]; rfl
        have tf0 : w5.frozen? ⟨w.heap.size + 1, 0, none⟩ = false := kB1.free 0
        have t1 : w5.cell? ⟨w.heap.size + 1, 1, none⟩ = some (.slice none 0 0) := by rw [kB1.cell]; rfl
        have tf1 : w5.frozen? ⟨w.heap.size + 1, 1, none⟩ = false := kB1.free 1
        go_wp2
        rw [HW1.out, if_pos H3.out]
        refine bodyPost_ret (v := .tuple #[.agg #[.int .i64 cap, .slice A5 ps.length c5], .int .i64 k, .int .i64 0]) (by simp [results, Try.results41, go_sem, t0, t1]) rfl ⟨_, rfl, (fun h => ⟨StO.to h, fun _ => h⟩ : StO _ w.heap.size _ _ _ → _) ⟨_, rfl, ?_⟩, ?_⟩
        · show World.ownsRow _ _ _ _ _ (ps.set k _).length _
          rw [List.length_set]
          exact ownsRow_mono (ownsRow_setCell_below (ownsRow_setCell_below hrow5 (a := ⟨w.heap.size + 1, 0, none⟩) (by simp; omega) _) (a := ⟨w.heap.size + 1, 1, none⟩) (by simp; omega) _) (by first | omega | (simp; done) | (simp; omega))
        · exact (hY5.setCell (p := ⟨w.heap.size + 1, 0, none⟩) (by simp) _).setCell (p := ⟨w.heap.size + 1, 1, none⟩) (by simp) _
      · have h3' : (y.r == 1) = false := by rw [HYR.out]; simpa using h3
        by_cases h5 : (allocL cap ps ⟨0, 0, 0, 0, 0⟩).2.1 = 0
        · obtain ⟨a, L, hA0, haL, hLn, hAx⟩ := alloc_other y h5
          have hal := HAL.out
          rw [hA0] at hal
          have HAX := Lib.hid hAx
          have hmx := allocL_may HM.out y
          rw [hAx] at hmx
          have hkeep := alloc_keep cap ps y k hk (by rw [pgAt_get hk, Option.some.inj ((List.getElem?_eq_getElem hk).symm.trans HK2.out)]; omega)
          rw [hAx] at hkeep
          dsimp only at hkeep hmx
          have hkx : (pgAt (L.set a { y with r := 1 }) k).r ≠ 0 := by rw [hkeep.2, pgAt_get hk, Option.some.inj ((List.getElem?_eq_getElem hk).symm.trans HK2.out)]; omega
          have hfx : freeX cap (L.set a { y with r := 1 }) k = (0, freeL (L.set a { y with r := 1 }) k) := by
            unfold freeX
            rw [had_mk hmx hkeep.1 (by rw [← pgAt_get hkeep.1]; exact hkx), if_pos rfl, Int.toNat_natCast]
          have hfree := fun v W h => HFREE.out v (L.set a { y with r := 1 }) W h (by rw [List.length_set]; omega)
          rw [hfx] at hfree
          have haL0 : (0 : Int) ≤ (a : Int) := by omega
          clear hA0 hAx hfx hkx hkeep hmx HFREE HAL HM HHL HK2
          go_enter Try.func41, Try.ntmps41
          go_wp2_with fail
          refine (hmay _ _ (hv.sl.below hb0)).mono ?_
          rintro e w1 ⟨rfl, hb1⟩
          have hY := hb0.trans (hb1.mono (by simp; try omega))
          have kA0 : Blk w1 w.heap.size 25 #[.int .i64 cap, .slice (some ⟨b, o, none⟩) ps.length c] := ((Blk.new_ w _ _ _ rfl).alloc _).keep hb1
          have kA1 : Blk w1 (w.heap.size + 1) 25 #[.int .i64 0, .slice none 0 0] := (Blk.new_ _ _ _ _ (by simp)).keep hb1
          have la := kA0.lt
          have lb := kA1.lt
          have s0 : w1.cell? ⟨w.heap.size, 0, none⟩ = some (.int .i64 cap) := by rw [kA0.cell]; rfl
          have sf0 : w1.frozen? ⟨w.heap.size, 0, none⟩ = false := kA0.free 0
          have s1 : w1.cell? ⟨w.heap.size, 1, none⟩ = some (.slice (some ⟨b, o, none⟩) ps.length c) := by rw [kA0.cell]; rfl
          have sf1 : w1.frozen? ⟨w.heap.size, 1, none⟩ = false := kA0.free 1
          have t0 : w1.cell? ⟨w.heap.size + 1, 0, none⟩ = some (.int .i64 0) := by rw [kA1.cell]; rfl
          have tf0 : w1.frozen? ⟨w.heap.size + 1, 0, none⟩ = false := kA1.free 0
          have t1 : w1.cell? ⟨w.heap.size + 1, 1, none⟩ = some (.slice none 0 0) := by rw [kA1.cell]; rfl
          have tf1 : w1.frozen? ⟨w.heap.size + 1, 1, none⟩ = false := kA1.free 1
          go_wp2_with fail
          refine (hhad _ _ (hv.keep hY)).mono ?_
          rintro e w2 ⟨rfl, hb2⟩
          replace hY := hY.trans (hb2.mono hY.size)
          replace kA0 := kA0.keep hb2
          replace kA1 := kA1.keep hb2
          clear la lb s0 s1 sf0 sf1 t0 t1 tf0 tf1
          have la := kA0.lt
          have lb := kA1.lt
          have s0 : w2.cell? ⟨w.heap.size, 0, none⟩ = some (.int .i64 cap) := by rw [kA0.cell]; rfl
          have sf0 : w2.frozen? ⟨w.heap.size, 0, none⟩ = false := kA0.free 0
          have s1 : w2.cell? ⟨w.heap.size, 1, none⟩ = some (.slice (some ⟨b, o, none⟩) ps.length c) := by rw [kA0.cell]; rfl
          have sf1 : w2.frozen? ⟨w.heap.size, 1, none⟩ = false := kA0.free 1
          have t0 : w2.cell? ⟨w.heap.size + 1, 0, none⟩ = some (.int .i64 0) := by rw [kA1.cell]; rfl
          have tf0 : w2.frozen? ⟨w.heap.size + 1, 0, none⟩ = false := kA1.free 0
          have t1 : w2.cell? ⟨w.heap.size + 1, 1, none⟩ = some (.slice none 0 0) := by rw [kA1.cell]; rfl
          have tf1 : w2.frozen? ⟨w.heap.size + 1, 1, none⟩ = false := kA1.free 1
          have e0 := hel w2 hY 0 _ rfl
          have e1 := hel w2 hY 1 _ rfl
          have e2 := hel w2 hY 2 _ rfl
          have e3 := hel w2 hY 3 _ rfl
          have e4 := hel w2 hY 4 _ rfl
          simp only [Nat.add_zero] at e0
          have hlw : b < w2.heap.size := Nat.lt_of_lt_of_le hlt hY.size
          clear hel
          clear hmay hhad
          go_upto_region 8 with fail
          have hA1 := (Below.refl w2.heap.size w2).alloc (Nat.le_refl _) (.cells #[.int .i64 x.r, .int .i64 x.a, .int .i64 x.b, .int .i64 x.c, .int .i64 x.d] 54)
          have kX := Blk.new w2 54 #[.int .i64 x.r, .int .i64 x.a, .int .i64 x.b, .int .i64 x.c, .int .i64 x.d]
          replace kA0 := kA0.keep hA1
          replace kA1 := kA1.keep hA1
          replace hY := hY.trans (hA1.mono hY.size)
          obtain ⟨w3, hw3⟩ : ∃ z, w2.alloc (.cells #[.int .i64 x.r, .int .i64 x.a, .int .i64 x.b, .int .i64 x.c, .int .i64 x.d] 54) = z := ⟨_, rfl⟩
          rw [hw3] at kX kA0 kA1 hY ⊢
          clear hw3 hA1 la lb s0 s1 sf0 sf1 t0 t1 tf0 tf1 e0 e1 e2 e3 e4
          have kXf := kX.free (1 + m)
          obtain ⟨uu, kXc⟩ : ∃ z, w3.cell? ⟨w2.heap.size, 1 + m, none⟩ = some z := ⟨_, (kX.cell (1 + m)).trans (Array.getElem?_eq_getElem (by simp; omega))⟩
          go_upto_region 9 with fail
          have hzw := hb2.size
          have hzw1 := hb1.size
          simp only [World.size_alloc] at hzw1
          replace kX := kX.set_ (1 + m) (.int .i64 u)
          rw [HWC.out] at kX
          replace kA0 := kA0.far (p := ⟨w2.heap.size, 1 + m, none⟩) (by simp; omega) (.int .i64 u)
          replace kA1 := kA1.far (p := ⟨w2.heap.size, 1 + m, none⟩) (by simp; omega) (.int .i64 u)
          replace hY := hY.setCell (p := ⟨w2.heap.size, 1 + m, none⟩) (by simp; omega) (.int .i64 u)
          obtain ⟨w4, hw4⟩ : ∃ z, w3.setCell ⟨w2.heap.size, 1 + m, none⟩ (.int .i64 u) = z := ⟨_, rfl⟩
          rw [hw4] at kX kA0 kA1 hY ⊢
          clear hw4 kXf kXc
          have la := kA0.lt
          have lb := kA1.lt
          have lx := kX.lt
          have s0 : w4.cell? ⟨w.heap.size, 0, none⟩ = some (.int .i64 cap) := by rw [kA0.cell]; rfl
          have sf0 : w4.frozen? ⟨w.heap.size, 0, none⟩ = false := kA0.free 0
          have s1 : w4.cell? ⟨w.heap.size, 1, none⟩ = some (.slice (some ⟨b, o, none⟩) ps.length c) := by rw [kA0.cell]; rfl
          have sf1 : w4.frozen? ⟨w.heap.size, 1, none⟩ = false := kA0.free 1
          have t0 : w4.cell? ⟨w.heap.size + 1, 0, none⟩ = some (.int .i64 0) := by rw [kA1.cell]; rfl
          have tf0 : w4.frozen? ⟨w.heap.size + 1, 0, none⟩ = false := kA1.free 0
          have t1 : w4.cell? ⟨w.heap.size + 1, 1, none⟩ = some (.slice none 0 0) := by rw [kA1.cell]; rfl
          have tf1 : w4.frozen? ⟨w.heap.size + 1, 1, none⟩ = false := kA1.free 1
          have x0 : w4.cell? ⟨w2.heap.size, 0, none⟩ = some (.int .i64 y.r) := by rw [kX.cell]; rfl
          have xf0 : w4.frozen? ⟨w2.heap.size, 0, none⟩ = false := kX.free 0
          have x1 : w4.cell? ⟨w2.heap.size, 1, none⟩ = some (.int .i64 y.a) := by rw [kX.cell]; rfl
          have xf1 : w4.frozen? ⟨w2.heap.size, 1, none⟩ = false := kX.free 1
          have x2 : w4.cell? ⟨w2.heap.size, 2, none⟩ = some (.int .i64 y.b) := by rw [kX.cell]; rfl
          have xf2 : w4.frozen? ⟨w2.heap.size, 2, none⟩ = false := kX.free 2
          have x3 : w4.cell? ⟨w2.heap.size, 3, none⟩ = some (.int .i64 y.c) := by rw [kX.cell]; rfl
          have xf3 : w4.frozen? ⟨w2.heap.size, 3, none⟩ = false := kX.free 3
          have x4 : w4.cell? ⟨w2.heap.size, 4, none⟩ = some (.int .i64 y.d) := by rw [kX.cell]; rfl
          have xf4 : w4.frozen? ⟨w2.heap.size, 4, none⟩ = false := kX.free 4
          go_wp2_with fail
          refine (hal _ _ (hv.keep hY)).mono ?_
          rintro e w5 ⟨v5, rfl, ⟨-, hso5⟩, hb5⟩
          obtain ⟨sv5, rfl, hrow5⟩ := hso5 rfl
          clear hso5
          dsimp only at hrow5
          obtain ⟨A5, c5, rfl, _, _⟩ := (Sl.of_own hrow5).form
          have hY5 := hY.trans (hb5.mono hY.size)
          replace kA0 := kA0.keep hb5
          replace kA1 := kA1.keep hb5
          replace kX := kX.keep hb5
          clear hal la lb s0 s1 sf0 sf1 t0 t1 tf0 tf1 x0 x1 x2 x3 x4 xf0 xf1 xf2 xf3 xf4
          have lx5 := kX.lt
          have la5 := kA0.lt
          have lb5 := kA1.lt
          have hzw5 := hb5.size
          have nx : ¬ w5.heap.size = w2.heap.size := by omega
          have nx2 : ¬ w2.heap.size = w5.heap.size := by omega
          have x0 : w5.cell? ⟨w2.heap.size, 0, none⟩ = some (.int .i64 y.r) := by rw [kX.cell]; rfl
          have xf0 : w5.frozen? ⟨w2.heap.size, 0, none⟩ = false := kX.free 0
          have x1 : w5.cell? ⟨w2.heap.size, 1, none⟩ = some (.int .i64 y.a) := by rw [kX.cell]; rfl
          have xf1 : w5.frozen? ⟨w2.heap.size, 1, none⟩ = false := kX.free 1
          have x2 : w5.cell? ⟨w2.heap.size, 2, none⟩ = some (.int .i64 y.b) := by rw [kX.cell]; rfl
          have xf2 : w5.frozen? ⟨w2.heap.size, 2, none⟩ = false := kX.free 2
          have x3 : w5.cell? ⟨w2.heap.size, 3, none⟩ = some (.int .i64 y.c) := by rw [kX.cell]; rfl
          have xf3 : w5.frozen? ⟨w2.heap.size, 3, none⟩ = false := kX.free 3
          have x4 : w5.cell? ⟨w2.heap.size, 4, none⟩ = some (.int .i64 y.d) := by rw [kX.cell]; rfl
          have xf4 : w5.frozen? ⟨w2.heap.size, 4, none⟩ = false := kX.free 4
          go_upto_region 15 with fail
          have hS := (hY5.setCell (p := ⟨w2.heap.size, 0, none⟩) (by simp; omega) (.int .i64 1)).alloc (by simp only [World.size_setCell]; exact hY5.size) (.cells #[.int .i64 cap, .slice A5 L.length c5] 25)
          have kX6 : Blk _ w2.heap.size 54 #[.int .i64 1, .int .i64 y.a, .int .i64 y.b, .int .i64 y.c, .int .i64 y.d] := (kX.set_ 0 (.int .i64 1)).alloc (.cells #[.int .i64 cap, .slice A5 L.length c5] 25)
          have kA6 := (kA1.far (p := ⟨w2.heap.size, 0, none⟩) (by simp; omega) (.int .i64 1)).alloc (.cells #[.int .i64 cap, .slice A5 L.length c5] 25)
          have kT6 := Blk.new_ (w5.setCell ⟨w2.heap.size, 0, none⟩ (.int .i64 1)) 25 #[.int .i64 cap, .slice A5 L.length c5] w5.heap.size (by simp)
          have own6 := own_below (ownsRow_setCell_below hrow5 (a := ⟨w2.heap.size, 0, none⟩) (by simp; omega) (.int .i64 1)) ((Below.refl _ _).alloc (Nat.le_refl _) (.cells #[.int .i64 cap, .slice A5 L.length c5] 25))
          have hz6 : ((w5.setCell ⟨w2.heap.size, 0, none⟩ (.int .i64 1)).alloc (.cells #[.int .i64 cap, .slice A5 L.length c5] 25)).heap.size = w5.heap.size + 1 := by simp
          obtain ⟨w6, hw6⟩ : ∃ z, (w5.setCell ⟨w2.heap.size, 0, none⟩ (.int .i64 1)).alloc (.cells #[.int .i64 cap, .slice A5 L.length c5] 25) = z := ⟨_, rfl⟩
          rw [hw6] at hS kX6 kA6 kT6 own6 hz6 ⊢
          clear hw6 hrow5 kX kA0 kA1 hY5 x0 x1 x2 x3 x4 xf0 xf1 xf2 xf3 xf4
          have x0 : w6.cell? ⟨w2.heap.size, 0, none⟩ = some (.int .i64 1) := by rw [kX6.cell]; rfl
          have xf0 : w6.frozen? ⟨w2.heap.size, 0, none⟩ = false := kX6.free 0
          have x1 : w6.cell? ⟨w2.heap.size, 1, none⟩ = some (.int .i64 y.a) := by rw [kX6.cell]; rfl
          have xf1 : w6.frozen? ⟨w2.heap.size, 1, none⟩ = false := kX6.free 1
          have x2 : w6.cell? ⟨w2.heap.size, 2, none⟩ = some (.int .i64 y.b) := by rw [kX6.cell]; rfl
          have xf2 : w6.frozen? ⟨w2.heap.size, 2, none⟩ = false := kX6.free 2
          have x3 : w6.cell? ⟨w2.heap.size, 3, none⟩ = some (.int .i64 y.c) := by rw [kX6.cell]; rfl
          have xf3 : w6.frozen? ⟨w2.heap.size, 3, none⟩ = false := kX6.free 3
          have x4 : w6.cell? ⟨w2.heap.size, 4, none⟩ = some (.int .i64 y.d) := by rw [kX6.cell]; rfl
          have xf4 : w6.frozen? ⟨w2.heap.size, 4, none⟩ = false := kX6.free 4
          have s0 : w6.cell? ⟨w5.heap.size, 0, none⟩ = some (.int .i64 cap) := by rw [kT6.cell]; rfl
          have sf0 : w6.frozen? ⟨w5.heap.size, 0, none⟩ = false := kT6.free 0
          have s1 : w6.cell? ⟨w5.heap.size, 1, none⟩ = some (.slice A5 L.length c5) := by rw [kT6.cell]; rfl
          have sf1 : w6.frozen? ⟨w5.heap.size, 1, none⟩ = false := kT6.free 1
          have hst6 : StV w6 (.agg #[.int .i64 cap, .slice A5 L.length c5]) cap L := ⟨_, rfl, Sl.of_own own6⟩
          go_wp2_with fail
          refine (HWITH.out L a _ ⟨1, y.a, y.b, y.c, y.d⟩ _ hst6 haL (by omega)).mono ?_
          rintro e w7 ⟨v7, rfl, hst7, hb7⟩
          obtain ⟨sv7, rfl, hrow7⟩ := hst7
          obtain ⟨A7, c7, rfl, _, _⟩ := (Sl.of_own hrow7).form
          have hlen7 : (L.set a (⟨1, y.a, y.b, y.c, y.d⟩ : Pg)).length = L.length := List.length_set
          rw [hlen7] at hrow7 ⊢
          replace hS := hS.trans (hb7.mono hS.size)
          replace kA6 := kA6.keep hb7
          replace kT6 := kT6.keep hb7
          have hz7 := hb7.size
          clear kX6 own6 hst6 x0 x1 x2 x3 x4 xf0 xf1 xf2 xf3 xf4 s0 s1 sf0 sf1
          have s0 : w7.cell? ⟨w5.heap.size, 0, none⟩ = some (.int .i64 cap) := by rw [kT6.cell]; rfl
          have sf0 : w7.frozen? ⟨w5.heap.size, 0, none⟩ = false := kT6.free 0
          have s1 : w7.cell? ⟨w5.heap.size, 1, none⟩ = some (.slice A5 L.length c5) := by rw [kT6.cell]; rfl
          have sf1 : w7.frozen? ⟨w5.heap.size, 1, none⟩ = false := kT6.free 1
          go_upto_region 16 with fail
          have hS8 := (hS.setCell (p := ⟨w5.heap.size, 0, none⟩) (by simp; omega) (.int .i64 cap)).setCell (p := ⟨w5.heap.size, 1, none⟩) (by simp; omega) (.slice A7 L.length c7)
          have kT8 : Blk _ w5.heap.size 25 #[.int .i64 cap, .slice A7 L.length c7] := (kT6.set_ 0 (.int .i64 cap)).set_ 1 (.slice A7 L.length c7)
          have kA8 := (kA6.far (p := ⟨w5.heap.size, 0, none⟩) (by simp; omega) (.int .i64 cap)).far (p := ⟨w5.heap.size, 1, none⟩) (by simp; omega) (.slice A7 L.length c7)
          have own8 := ownsRow_setCell_below (ownsRow_setCell_below hrow7 (a := ⟨w5.heap.size, 0, none⟩) (by rw [hz6]; simp) (.int .i64 cap)) (a := ⟨w5.heap.size, 1, none⟩) (by rw [hz6]; simp) (.slice A7 L.length c7)
          obtain ⟨w8, hw8⟩ : ∃ z, (w7.setCell ⟨w5.heap.size, 0, none⟩ (.int .i64 cap)).setCell ⟨w5.heap.size, 1, none⟩ (.slice A7 L.length c7) = z := ⟨_, rfl⟩
          rw [hw8] at hS8 kT8 kA8 own8 ⊢
          clear hw8 kT6 kA6 hrow7 hS s0 s1 sf0 sf1
          have lt8 := kT8.lt
          have la8 := kA8.lt
          have s0 : w8.cell? ⟨w5.heap.size, 0, none⟩ = some (.int .i64 cap) := by rw [kT8.cell]; rfl
          have sf0 : w8.frozen? ⟨w5.heap.size, 0, none⟩ = false := kT8.free 0
          have s1 : w8.cell? ⟨w5.heap.size, 1, none⟩ = some (.slice A7 L.length c7) := by rw [kT8.cell]; rfl
          have sf1 : w8.frozen? ⟨w5.heap.size, 1, none⟩ = false := kT8.free 1
          have hst8 : StV w8 (.agg #[.int .i64 cap, .slice A7 L.length c7]) cap (L.set a ⟨1, y.a, y.b, y.c, y.d⟩) := ⟨_, rfl, by rw [hlen7]; exact Sl.of_own own8⟩
          go_wp2_with fail
          refine (hfree _ _ hst8).mono ?_
          rintro e w9 ⟨v9, rfl, ⟨-, hso9⟩, hb9⟩
          obtain ⟨sv9, rfl, hrow9⟩ := hso9 rfl
          clear hso9
          dsimp only at hrow9
          obtain ⟨A9, c9, rfl, _, _⟩ := (Sl.of_own hrow9).form
          replace hS8 := hS8.trans (hb9.mono hS8.size)
          replace kA8 := kA8.keep hb9
          have la9 := kA8.lt
          clear hfree hst8 own8 kT8 s0 s1 sf0 sf1
          have t0 : w9.cell? ⟨w.heap.size + 1, 0, none⟩ = some (.int .i64 0) := by rw [kA8.cell]; rfl
          have tf0 : w9.frozen? ⟨w.heap.size + 1, 0, none⟩ = false := kA8.free 0
          have t1 : w9.cell? ⟨w.heap.size + 1, 1, none⟩ = some (.slice none 0 0) := by rw [kA8.cell]; rfl
          have tf1 : w9.frozen? ⟨w.heap.size + 1, 1, none⟩ = false := kA8.free 1
          have hL9 : freeL (L.set a ⟨1, y.a, y.b, y.c, y.d⟩) k = freeL (L.set a ⟨1, y.a, y.b, y.c, y.d⟩) k := rfl
          go_wp2
          rw [HW1.out, if_neg h3, HAX.out, if_pos rfl]
          refine bodyPost_ret (v := .tuple #[.agg #[.int .i64 cap, .slice A9 (freeL (L.set a ⟨1, y.a, y.b, y.c, y.d⟩) k).length c9], .int .i64 a, .int .i64 0]) (by simp [results, Try.results41, go_sem, t0, t1, la9]) rfl ⟨_, rfl, ?_, ?_⟩
          · exact (fun h => ⟨StO.to h, fun _ => h⟩ : StO _ w.heap.size _ _ _ → _) ⟨_, rfl, ownsRow_mono (own_below (ownsRow_setCell_below (ownsRow_setCell_below hrow9 (a := ⟨w.heap.size + 1, 0, none⟩) (by simp; omega) _) (a := ⟨w.heap.size + 1, 1, none⟩) (by simp; omega) _) ((Below.refl _ _).alloc (Nat.le_refl _) _)) (by first | omega | (simp; done) | (simp; omega))⟩
          · exact ((hS8.setCell (p := ⟨w.heap.size + 1, 0, none⟩) (by simp) _).setCell (p := ⟨w.heap.size + 1, 1, none⟩) (by simp) _).alloc (by simp only [World.size_setCell]; exact hS8.size) _
        · obtain ⟨hA0, hAx⟩ := alloc_same_err y h5
          have hal := HAL.out
          rw [hA0] at hal
          have HAX := Lib.hid hAx
          clear hA0 hAx HFREE HAL HM HHL HK2
          go_enter Try.func41, Try.ntmps41
          go_wp2_with fail
          refine (hmay _ _ (hv.sl.below hb0)).mono ?_
          rintro e w1 ⟨rfl, hb1⟩
          have hY := hb0.trans (hb1.mono (by simp; try omega))
          have kA0 : Blk w1 w.heap.size 25 #[.int .i64 cap, .slice (some ⟨b, o, none⟩) ps.length c] := ((Blk.new_ w _ _ _ rfl).alloc _).keep hb1
          have kA1 : Blk w1 (w.heap.size + 1) 25 #[.int .i64 0, .slice none 0 0] := (Blk.new_ _ _ _ _ (by simp)).keep hb1
          have la := kA0.lt
          have lb := kA1.lt
          have s0 : w1.cell? ⟨w.heap.size, 0, none⟩ = some (.int .i64 cap) := by rw [kA0.cell]; rfl
          have sf0 : w1.frozen? ⟨w.heap.size, 0, none⟩ = false := kA0.free 0
          have s1 : w1.cell? ⟨w.heap.size, 1, none⟩ = some (.slice (some ⟨b, o, none⟩) ps.length c) := by rw [kA0.cell]; rfl
          have sf1 : w1.frozen? ⟨w.heap.size, 1, none⟩ = false := kA0.free 1
          have t0 : w1.cell? ⟨w.heap.size + 1, 0, none⟩ = some (.int .i64 0) := by rw [kA1.cell]; rfl
          have tf0 : w1.frozen? ⟨w.heap.size + 1, 0, none⟩ = false := kA1.free 0
          have t1 : w1.cell? ⟨w.heap.size + 1, 1, none⟩ = some (.slice none 0 0) := by rw [kA1.cell]; rfl
          have tf1 : w1.frozen? ⟨w.heap.size + 1, 1, none⟩ = false := kA1.free 1
          go_wp2_with fail
          refine (hhad _ _ (hv.keep hY)).mono ?_
          rintro e w2 ⟨rfl, hb2⟩
          replace hY := hY.trans (hb2.mono hY.size)
          replace kA0 := kA0.keep hb2
          replace kA1 := kA1.keep hb2
          clear la lb s0 s1 sf0 sf1 t0 t1 tf0 tf1
          have la := kA0.lt
          have lb := kA1.lt
          have s0 : w2.cell? ⟨w.heap.size, 0, none⟩ = some (.int .i64 cap) := by rw [kA0.cell]; rfl
          have sf0 : w2.frozen? ⟨w.heap.size, 0, none⟩ = false := kA0.free 0
          have s1 : w2.cell? ⟨w.heap.size, 1, none⟩ = some (.slice (some ⟨b, o, none⟩) ps.length c) := by rw [kA0.cell]; rfl
          have sf1 : w2.frozen? ⟨w.heap.size, 1, none⟩ = false := kA0.free 1
          have t0 : w2.cell? ⟨w.heap.size + 1, 0, none⟩ = some (.int .i64 0) := by rw [kA1.cell]; rfl
          have tf0 : w2.frozen? ⟨w.heap.size + 1, 0, none⟩ = false := kA1.free 0
          have t1 : w2.cell? ⟨w.heap.size + 1, 1, none⟩ = some (.slice none 0 0) := by rw [kA1.cell]; rfl
          have tf1 : w2.frozen? ⟨w.heap.size + 1, 1, none⟩ = false := kA1.free 1
          have e0 := hel w2 hY 0 _ rfl
          have e1 := hel w2 hY 1 _ rfl
          have e2 := hel w2 hY 2 _ rfl
          have e3 := hel w2 hY 3 _ rfl
          have e4 := hel w2 hY 4 _ rfl
          simp only [Nat.add_zero] at e0
          have hlw : b < w2.heap.size := Nat.lt_of_lt_of_le hlt hY.size
          clear hel
          clear hmay hhad
          go_upto_region 8 with fail
          have hA1 := (Below.refl w2.heap.size w2).alloc (Nat.le_refl _) (.cells #[.int .i64 x.r, .int .i64 x.a, .int .i64 x.b, .int .i64 x.c, .int .i64 x.d] 54)
          have kX := Blk.new w2 54 #[.int .i64 x.r, .int .i64 x.a, .int .i64 x.b, .int .i64 x.c, .int .i64 x.d]
          replace kA0 := kA0.keep hA1
          replace kA1 := kA1.keep hA1
          replace hY := hY.trans (hA1.mono hY.size)
          obtain ⟨w3, hw3⟩ : ∃ z, w2.alloc (.cells #[.int .i64 x.r, .int .i64 x.a, .int .i64 x.b, .int .i64 x.c, .int .i64 x.d] 54) = z := ⟨_, rfl⟩
          rw [hw3] at kX kA0 kA1 hY ⊢
          clear hw3 hA1 la lb s0 s1 sf0 sf1 t0 t1 tf0 tf1 e0 e1 e2 e3 e4
          have kXf := kX.free (1 + m)
          obtain ⟨uu, kXc⟩ : ∃ z, w3.cell? ⟨w2.heap.size, 1 + m, none⟩ = some z := ⟨_, (kX.cell (1 + m)).trans (Array.getElem?_eq_getElem (by simp; omega))⟩
          go_upto_region 9 with fail
          have hzw := hb2.size
          have hzw1 := hb1.size
          simp only [World.size_alloc] at hzw1
          replace kX := kX.set_ (1 + m) (.int .i64 u)
          rw [HWC.out] at kX
          replace kA0 := kA0.far (p := ⟨w2.heap.size, 1 + m, none⟩) (by simp; omega) (.int .i64 u)
          replace kA1 := kA1.far (p := ⟨w2.heap.size, 1 + m, none⟩) (by simp; omega) (.int .i64 u)
          replace hY := hY.setCell (p := ⟨w2.heap.size, 1 + m, none⟩) (by simp; omega) (.int .i64 u)
          obtain ⟨w4, hw4⟩ : ∃ z, w3.setCell ⟨w2.heap.size, 1 + m, none⟩ (.int .i64 u) = z := ⟨_, rfl⟩
          rw [hw4] at kX kA0 kA1 hY ⊢
          clear hw4 kXf kXc
          have la := kA0.lt
          have lb := kA1.lt
          have lx := kX.lt
          have s0 : w4.cell? ⟨w.heap.size, 0, none⟩ = some (.int .i64 cap) := by rw [kA0.cell]; rfl
          have sf0 : w4.frozen? ⟨w.heap.size, 0, none⟩ = false := kA0.free 0
          have s1 : w4.cell? ⟨w.heap.size, 1, none⟩ = some (.slice (some ⟨b, o, none⟩) ps.length c) := by rw [kA0.cell]; rfl
          have sf1 : w4.frozen? ⟨w.heap.size, 1, none⟩ = false := kA0.free 1
          have t0 : w4.cell? ⟨w.heap.size + 1, 0, none⟩ = some (.int .i64 0) := by rw [kA1.cell]; rfl
          have tf0 : w4.frozen? ⟨w.heap.size + 1, 0, none⟩ = false := kA1.free 0
          have t1 : w4.cell? ⟨w.heap.size + 1, 1, none⟩ = some (.slice none 0 0) := by rw [kA1.cell]; rfl
          have tf1 : w4.frozen? ⟨w.heap.size + 1, 1, none⟩ = false := kA1.free 1
          have x0 : w4.cell? ⟨w2.heap.size, 0, none⟩ = some (.int .i64 y.r) := by rw [kX.cell]; rfl
          have xf0 : w4.frozen? ⟨w2.heap.size, 0, none⟩ = false := kX.free 0
          have x1 : w4.cell? ⟨w2.heap.size, 1, none⟩ = some (.int .i64 y.a) := by rw [kX.cell]; rfl
          have xf1 : w4.frozen? ⟨w2.heap.size, 1, none⟩ = false := kX.free 1
          have x2 : w4.cell? ⟨w2.heap.size, 2, none⟩ = some (.int .i64 y.b) := by rw [kX.cell]; rfl
          have xf2 : w4.frozen? ⟨w2.heap.size, 2, none⟩ = false := kX.free 2
          have x3 : w4.cell? ⟨w2.heap.size, 3, none⟩ = some (.int .i64 y.c) := by rw [kX.cell]; rfl
          have xf3 : w4.frozen? ⟨w2.heap.size, 3, none⟩ = false := kX.free 3
          have x4 : w4.cell? ⟨w2.heap.size, 4, none⟩ = some (.int .i64 y.d) := by rw [kX.cell]; rfl
          have xf4 : w4.frozen? ⟨w2.heap.size, 4, none⟩ = false := kX.free 4
          go_wp2_with fail
          refine (hal _ _ (hv.keep hY)).mono ?_
          rintro e w5 ⟨v5, rfl, ⟨hst5, -⟩, hb5⟩
          dsimp only at hst5
          obtain ⟨A5, c5, rfl, hst5⟩ := hst5.form
          have hY5 := hY.trans (hb5.mono hY.size)
          replace kA0 := kA0.keep hb5
          replace kA1 := kA1.keep hb5
          clear hal la lb s0 s1 sf0 sf1 t0 t1 tf0 tf1 x0 x1 x2 x3 x4 xf0 xf1 xf2 xf3 xf4
          have la5 := kA0.lt
          have lb5 := kA1.lt
          have s0 : w5.cell? ⟨w.heap.size, 0, none⟩ = some (.int .i64 cap) := by rw [kA0.cell]; rfl
          have sf0 : w5.frozen? ⟨w.heap.size, 0, none⟩ = false := kA0.free 0
          have s1 : w5.cell? ⟨w.heap.size, 1, none⟩ = some (.slice (some ⟨b, o, none⟩) ps.length c) := by rw [kA0.cell]; rfl
          have sf1 : w5.frozen? ⟨w.heap.size, 1, none⟩ = false := kA0.free 1
          have t0 : w5.cell? ⟨w.heap.size + 1, 0, none⟩ = some (.int .i64 0) := by rw [kA1.cell]; rfl
          have tf0 : w5.frozen? ⟨w.heap.size + 1, 0, none⟩ = false := kA1.free 0
          have t1 : w5.cell? ⟨w.heap.size + 1, 1, none⟩ = some (.slice none 0 0) := by rw [kA1.cell]; rfl
          have tf1 : w5.frozen? ⟨w.heap.size + 1, 1, none⟩ = false := kA1.free 1
          go_wp2
          rw [HW1.out, if_neg h3, HAX.out, if_neg (by simp)]
          refine bodyPost_ret (v := .tuple #[.agg #[.int .i64 cap, .slice (some ⟨b, o, none⟩) ps.length c], .int .i64 (-1), .int .i64 8]) (by simp [results, Try.results41, go_sem, t0, t1, lb5]) rfl ⟨_, rfl, ?_, ?_⟩
          · exact ⟨hv.keep (((hY5.setCell (p := ⟨w.heap.size + 1, 0, none⟩) (by simp) _).setCell (p := ⟨w.heap.size + 1, 1, none⟩) (by simp) _).alloc (by simp only [World.size_setCell]; exact hY5.size) _), fun h => by simp at h⟩
          · exact ((hY5.setCell (p := ⟨w.heap.size + 1, 0, none⟩) (by simp) _).setCell (p := ⟨w.heap.size + 1, 1, none⟩) (by simp) _).alloc (by simp only [World.size_setCell]; exact hY5.size) _
end Go.Proofs.Ytoogobenjhmjjaa
namespace Go.Proofs.Ytoogobenjhmjjaa
open Go Go.RowKit
set_option linter.unusedVariables false
attribute [local go_sem ↓] Go.wp_at_zero Go.wp_at_succ

set_option maxRecDepth 100000 in
set_option maxHeartbeats 4000000 in
theorem RSame_any (v1 v2 : Value) (k1 k2 : Int) (xs ys : List Pg) (w : World) (hv1 : StV w v1 k1 xs) (hv2 : StV w v2 k2 ys) :
    Calls Try.prog 48 #[v1, v2] w fun e w' => e = .returned (.bool (sameP k1 xs k2 ys)) ∧ Below w.heap.size w w' := by
  obtain ⟨A1, c1, rfl, hv1⟩ := hv1.form
  obtain ⟨A2, c2, rfl, hv2⟩ := hv2.form
  have hb0 : Below w.heap.size w ((w.alloc (.cells #[.int .i64 k1, .slice A1 xs.length c1] 25)).alloc (.cells #[.int .i64 k2, .slice A2 ys.length c2] 25)) := ((Below.refl _ w).alloc (Nat.le_refl _) _).alloc (by simp) _
  cases h1 : (k1 == k2) with
  | false =>
    rw [show sameP k1 xs k2 ys = false from by simp [sameP, h1]]
    have h1' : (k1 != k2) = true := by simpa using h1
    go_enter Try.func48, Try.ntmps48
    go_wp2
    go_ret
    exact ⟨rfl, hb0⟩
  | true =>
    obtain rfl : k1 = k2 := by simpa using h1
    rw [show sameP k1 xs k1 ys = eqL pgEq xs ys from by simp [sameP]]
    clear h1
    by_cases hlen : xs.length = ys.length
    · have hs1 := hv1.sl
      have hs2 := hv2.sl
      have hp1 : 0 < xs.length → ∃ b o, A1 = some ⟨b, o, none⟩ ∧ b < w.heap.size ∧ ∀ (W : World), Below w.heap.size w W → ∀ j (hj : j < xs.length) i u, (encP xs[j])[i]? = some u → W.cell? ⟨b, o + j * 5 + i, none⟩ = some u := fun h => Sl.pos encP encP_len hs1 h
      have hp2 : 0 < ys.length → ∃ b o, A2 = some ⟨b, o, none⟩ ∧ b < w.heap.size ∧ ∀ (W : World), Below w.heap.size w W → ∀ j (hj : j < ys.length) i u, (encP ys[j])[i]? = some u → W.cell? ⟨b, o + j * 5 + i, none⟩ = some u := fun h => Sl.pos encP encP_len hs2 h
      obtain ⟨_, _, _, hc, hm⟩ := hs1.form
      have hbig : xs.length ≤ 9223372036854775807 := by unfold maxLen at hm; omega
      clear hs1 hs2 hv1 hv2 hc hm
      obtain ⟨n, hn⟩ : ∃ n, xs.length = n := ⟨_, rfl⟩
      have hn2 : ys.length = n := by rw [← hlen, hn]
      rw [hn] at hbig
      rw [hn, hn2] at hb0 ⊢
      have q0 : Blk ((w.alloc (.cells #[.int .i64 k1, .slice A1 n c1] 25)).alloc (.cells #[.int .i64 k1, .slice A2 n c2] 25)) w.heap.size 25 #[.int .i64 k1, .slice A1 n c1] := (Blk.new_ w _ _ _ rfl).alloc _
      have q1 : Blk ((w.alloc (.cells #[.int .i64 k1, .slice A1 n c1] 25)).alloc (.cells #[.int .i64 k1, .slice A2 n c2] 25)) (w.heap.size + 1) 25 #[.int .i64 k1, .slice A2 n c2] := Blk.new_ _ _ _ _ (by simp)
      have HN := Lib.hid hn
      have HN2 := Lib.hid hn2
      have HL := Lib.hid hlen
      have HP1 := Lib.hid hp1
      have HP2 := Lib.hid hp2
      obtain ⟨w1, hw1⟩ : ∃ x, ((w.alloc (.cells #[.int .i64 k1, .slice A1 n c1] 25)).alloc (.cells #[.int .i64 k1, .slice A2 n c2] 25)) = x := ⟨_, rfl⟩
      have HB := Lib.hid (hw1 ▸ hb0)
      have K0 := Lib.hid (hw1 ▸ q0)
      have K1 := Lib.hid (hw1 ▸ q1)
      have HW := Lib.hid hw1
      clear hn hn2 hlen hp1 hp2 hb0 q0 q1 hw1
      go_enter Try.func48, Try.ntmps48
      go_wp2
      rw [HW.out]
      clear HW
      go_loopg [5] n (fun gg s5 wr => ∃ kk : Nat, kk ≤ n ∧ n - kk ≤ gg ∧ s5 = .int .i64 kk ∧ Hid (Below w1.heap.size w1 wr) ∧ Hid (∀ j (h : j < xs.length) (h2 : j < ys.length), j < kk → pgEq xs[j] ys[j] = true))
      case atStart => exact ⟨0, Nat.zero_le _, by omega, rfl, Below.refl _ _, fun j _ _ hj => absurd hj (Nat.not_lt_zero _)⟩
      case round =>
        obtain ⟨kk, hkk, hg, rfl, BW, AA⟩ := hrel
        have q0 := K0.out.keep BW.out
        have q1 := K1.out.keep BW.out
        have l0 := q0.lt
        have l1 := q1.lt
        have s0 : wr.cell? ⟨w.heap.size, 0, none⟩ = some (.int .i64 k1) := by rw [q0.cell]; rfl
        have sf0 : wr.frozen? ⟨w.heap.size, 0, none⟩ = false := q0.free 0
        have s1 : wr.cell? ⟨w.heap.size, 1, none⟩ = some (.slice A1 n c1) := by rw [q0.cell]; rfl
        have sf1 : wr.frozen? ⟨w.heap.size, 1, none⟩ = false := q0.free 1
        have t0 : wr.cell? ⟨w.heap.size + 1, 0, none⟩ = some (.int .i64 k1) := by rw [q1.cell]; rfl
        have tf0 : wr.frozen? ⟨w.heap.size + 1, 0, none⟩ = false := q1.free 0
        have t1 : wr.cell? ⟨w.heap.size + 1, 1, none⟩ = some (.slice A2 n c2) := by rw [q1.cell]; rfl
        have tf1 : wr.frozen? ⟨w.heap.size + 1, 1, none⟩ = false := q1.free 1
        clear q0 q1
        by_cases hlt : kk < n
        · have hltz : (kk : Int) < (n : Int) := by omega
          have hgez : (0 : Int) ≤ (kk : Int) := by omega
          have hlt1 : kk < xs.length := by rw [HN.out]; exact hlt
          have hlt2 : kk < ys.length := by rw [HN2.out]; exact hlt
          obtain ⟨b1, o1, rfl, hb1, he1⟩ := HP1.out (by omega)
          obtain ⟨b2, o2, rfl, hb2, he2⟩ := HP2.out (by omega)
          have hYW := HB.out.trans (BW.out.mono HB.out.size)
          have x0 := he1 wr hYW kk hlt1 0 _ rfl
          have x1 := he1 wr hYW kk hlt1 1 _ rfl
          have x2 := he1 wr hYW kk hlt1 2 _ rfl
          have x3 := he1 wr hYW kk hlt1 3 _ rfl
          have x4 := he1 wr hYW kk hlt1 4 _ rfl
          have y0 := he2 wr hYW kk hlt2 0 _ rfl
          have y1 := he2 wr hYW kk hlt2 1 _ rfl
          have y2 := he2 wr hYW kk hlt2 2 _ rfl
          have y3 := he2 wr hYW kk hlt2 3 _ rfl
          have y4 := he2 wr hYW kk hlt2 4 _ rfl
          simp only [Nat.add_zero] at x0 y0
          have lb1 : b1 < wr.heap.size := Nat.lt_of_lt_of_le hb1 hYW.size
          have lb2 : b2 < wr.heap.size := Nat.lt_of_lt_of_le hb2 hYW.size
          clear he1 he2 HP1 HP2 hYW
          have hne := fun w => neq_page xs[kk] ys[kk] w
          have hgd := fun a b w => guard_page .neq a b xs[kk] ys[kk] w
          generalize hX : xs[kk] = x at x0 x1 x2 x3 x4 hne hgd
          generalize hY : ys[kk] = y at y0 y1 y2 y3 y4 hne hgd
          have HX := Lib.hid hX
          have HY := Lib.hid hY
          clear hX hY
          simp only [encP] at hne hgd
          cases hq : pgEq x y with
          | true =>
            rw [hq] at hne
            have HQ := Lib.hid hq
            clear hq
            go_wp2_with fail
            refine wp_region_held_drew (S := fun w' => w'.cell? ⟨w.heap.size, 1, none⟩ = some (.slice (some ⟨b1, o1, none⟩) n c1) ∧ w'.cell? ⟨w.heap.size + 1, 1, none⟩ = some (.slice (some ⟨b2, o2, none⟩) n c2) ∧ w'.cell? ⟨b1, o1 + kk * 5, none⟩ = some (.int .i64 x.r) ∧ w'.cell? ⟨b1, o1 + kk * 5 + 1, none⟩ = some (.int .i64 x.a) ∧ w'.cell? ⟨b1, o1 + kk * 5 + 2, none⟩ = some (.int .i64 x.b) ∧ w'.cell? ⟨b1, o1 + kk * 5 + 3, none⟩ = some (.int .i64 x.c) ∧ w'.cell? ⟨b1, o1 + kk * 5 + 4, none⟩ = some (.int .i64 x.d) ∧ w'.cell? ⟨b2, o2 + kk * 5, none⟩ = some (.int .i64 y.r) ∧ w'.cell? ⟨b2, o2 + kk * 5 + 1, none⟩ = some (.int .i64 y.a) ∧ w'.cell? ⟨b2, o2 + kk * 5 + 2, none⟩ = some (.int .i64 y.b) ∧ w'.cell? ⟨b2, o2 + kk * 5 + 3, none⟩ = some (.int .i64 y.c) ∧ w'.cell? ⟨b2, o2 + kk * 5 + 4, none⟩ = some (.int .i64 y.d)) (by kernel_rfl) ?_ (fun hHeldbr => ?_)
            · exact ⟨s1, t1, x0, x1, x2, x3, x4, y0, y1, y2, y3, y4⟩
            refine wpAnyH_take (i := 0) (oi := { dst := some 27, op := Op.fieldAddr 25 (Operand.tmp 2) 1, type := 0, pos := "ref.go:31", after := _, guard := none }) (v := ?vbr0) rfl (by kernel_rfl) (by kernel_rfl) (by kernel_rfl) (fun _ _ _ h => h) (Or.inl ⟨by rfl, ?hybr0⟩) (by assumption) ?restbr0
            case hybr0 => (intro w hSw; (try dsimp only at hSw); go_simp <;> with_reducible rfl)
            try simp only [Act.put, List.setIfInBounds_toArray, List.set_cons_zero, List.set_cons_succ]
            refine wpAnyH_take (i := 1) (oi := { dst := some 28, op := Op.load 23 (Operand.tmp 27), type := 23, pos := "ref.go:31", after := _, guard := none }) (v := ?vbr1) rfl (by kernel_rfl) (by kernel_rfl) (by kernel_rfl) (fun _ _ _ h => h) (Or.inl ⟨by rfl, ?hybr1⟩) (by assumption) ?restbr1
            case hybr1 => (intro w hSw; (try dsimp only at hSw); go_simp <;> with_reducible rfl)
            try simp only [Act.put, List.setIfInBounds_toArray, List.set_cons_zero, List.set_cons_succ]
            refine wpAnyH_take (i := 2) (oi := { dst := some 29, op := Op.move (Operand.tmp 5), type := 3, pos := "ref.go:31", after := _, guard := none }) (v := ?vbr2) rfl (by kernel_rfl) (by kernel_rfl) (by kernel_rfl) (fun _ _ _ h => h) (Or.inl ⟨by rfl, ?hybr2⟩) (by assumption) ?restbr2
            case hybr2 => (intro w hSw; (try dsimp only at hSw); go_simp <;> with_reducible rfl)
            try simp only [Act.put, List.setIfInBounds_toArray, List.set_cons_zero, List.set_cons_succ]
            refine wpAnyH_take (i := 3) (oi := { dst := some 30, op := Op.indexAddr 23 (Operand.tmp 28) (Operand.tmp 29), type := 0, pos := "ref.go:31", after := _, guard := none }) (v := ?vbr3) rfl (by kernel_rfl) (by kernel_rfl) (by kernel_rfl) (fun _ _ _ h => h) (Or.inl ⟨by rfl, ?hybr3⟩) (by assumption) ?restbr3
            case hybr3 => (intro w hSw; (try dsimp only at hSw); go_simp <;> with_reducible rfl)
            try simp only [Act.put, List.setIfInBounds_toArray, List.set_cons_zero, List.set_cons_succ]
            refine wpAnyH_take (i := 4) (oi := { dst := some 31, op := Op.load 54 (Operand.tmp 30), type := 54, pos := "ref.go:31", after := _, guard := none }) (v := ?vbr4) rfl (by kernel_rfl) (by kernel_rfl) (by kernel_rfl) (fun _ _ _ h => h) (Or.inl ⟨by rfl, ?hybr4⟩) (by assumption) ?restbr4
            case hybr4 => (intro w hSw; (try dsimp only at hSw); go_simp <;> with_reducible rfl)
            try simp only [Act.put, List.setIfInBounds_toArray, List.set_cons_zero, List.set_cons_succ]
            refine wpAnyH_take (i := 5) (oi := { dst := some 32, op := Op.fieldAddr 25 (Operand.tmp 3) 1, type := 0, pos := "ref.go:31", after := _, guard := none }) (v := ?vbr5) rfl (by kernel_rfl) (by kernel_rfl) (by kernel_rfl) (fun _ _ _ h => h) (Or.inl ⟨by rfl, ?hybr5⟩) (by assumption) ?restbr5
            case hybr5 => (intro w hSw; (try dsimp only at hSw); go_simp <;> with_reducible rfl)
            try simp only [Act.put, List.setIfInBounds_toArray, List.set_cons_zero, List.set_cons_succ]
            refine wpAnyH_take (i := 6) (oi := { dst := some 33, op := Op.load 23 (Operand.tmp 32), type := 23, pos := "ref.go:31", after := _, guard := none }) (v := ?vbr6) rfl (by kernel_rfl) (by kernel_rfl) (by kernel_rfl) (fun _ _ _ h => h) (Or.inl ⟨by rfl, ?hybr6⟩) (by assumption) ?restbr6
            case hybr6 => (intro w hSw; (try dsimp only at hSw); go_simp <;> with_reducible rfl)
            try simp only [Act.put, List.setIfInBounds_toArray, List.set_cons_zero, List.set_cons_succ]
            refine wpAnyH_take (i := 7) (oi := { dst := some 34, op := Op.move (Operand.tmp 5), type := 3, pos := "ref.go:31", after := _, guard := none }) (v := ?vbr7) rfl (by kernel_rfl) (by kernel_rfl) (by kernel_rfl) (fun _ _ _ h => h) (Or.inl ⟨by rfl, ?hybr7⟩) (by assumption) ?restbr7
            case hybr7 => (intro w hSw; (try dsimp only at hSw); go_simp <;> with_reducible rfl)
            try simp only [Act.put, List.setIfInBounds_toArray, List.set_cons_zero, List.set_cons_succ]
            refine wpAnyH_take (i := 8) (oi := { dst := some 35, op := Op.indexAddr 23 (Operand.tmp 33) (Operand.tmp 34), type := 0, pos := "ref.go:31", after := _, guard := none }) (v := ?vbr8) rfl (by kernel_rfl) (by kernel_rfl) (by kernel_rfl) (fun _ _ _ h => h) (Or.inl ⟨by rfl, ?hybr8⟩) (by assumption) ?restbr8
            case hybr8 => (intro w hSw; (try dsimp only at hSw); go_simp <;> with_reducible rfl)
            try simp only [Act.put, List.setIfInBounds_toArray, List.set_cons_zero, List.set_cons_succ]
            refine wpAnyH_take (i := 9) (oi := { dst := some 36, op := Op.load 54 (Operand.tmp 35), type := 54, pos := "ref.go:31", after := _, guard := none }) (v := ?vbr9) rfl (by kernel_rfl) (by kernel_rfl) (by kernel_rfl) (fun _ _ _ h => h) (Or.inl ⟨by rfl, ?hybr9⟩) (by assumption) ?restbr9
            case hybr9 => (intro w hSw; (try dsimp only at hSw); go_simp <;> with_reducible rfl)
            try simp only [Act.put, List.setIfInBounds_toArray, List.set_cons_zero, List.set_cons_succ]
            refine wpAnyH_take (i := 10) (oi := { dst := some 37, op := Op.binOp BinOp.neq 54 (Operand.tmp 31) (Operand.tmp 36) 54, type := 4, pos := "ref.go:31", after := _, guard := none }) (v := ?vbr10) rfl (by kernel_rfl) (by kernel_rfl) (by kernel_rfl) (fun _ _ _ h => h) (Or.inl ⟨by rfl, ?hybr10⟩) (by assumption) ?restbr10
            case hybr10 => (intro w hSw; (try dsimp only at hSw); go_simp <;> with_reducible rfl)
            try simp only [Act.put, List.setIfInBounds_toArray, List.set_cons_zero, List.set_cons_succ]
            refine wpAnyH_done (by kernel_rfl) ?_ _
            go_wp2
            go_roundg (n - (kk + 1))
            case measure => omega
            case rel =>
              refine ⟨kk + 1, by omega, by omega, by go_num, BW.out.drew, (show Hid _ from fun j h h2 hj => ?_)⟩
              by_cases e : j = kk
              · subst e
                rw [HX.out, HY.out]; exact HQ.out
              · exact AA.out j h h2 (by omega)
          | false =>
            rw [hq] at hne
            have HQ := Lib.hid hq
            clear hq
            go_wp2_with fail
            refine wp_region_held_drew (S := fun w' => w'.cell? ⟨w.heap.size, 1, none⟩ = some (.slice (some ⟨b1, o1, none⟩) n c1) ∧ w'.cell? ⟨w.heap.size + 1, 1, none⟩ = some (.slice (some ⟨b2, o2, none⟩) n c2) ∧ w'.cell? ⟨b1, o1 + kk * 5, none⟩ = some (.int .i64 x.r) ∧ w'.cell? ⟨b1, o1 + kk * 5 + 1, none⟩ = some (.int .i64 x.a) ∧ w'.cell? ⟨b1, o1 + kk * 5 + 2, none⟩ = some (.int .i64 x.b) ∧ w'.cell? ⟨b1, o1 + kk * 5 + 3, none⟩ = some (.int .i64 x.c) ∧ w'.cell? ⟨b1, o1 + kk * 5 + 4, none⟩ = some (.int .i64 x.d) ∧ w'.cell? ⟨b2, o2 + kk * 5, none⟩ = some (.int .i64 y.r) ∧ w'.cell? ⟨b2, o2 + kk * 5 + 1, none⟩ = some (.int .i64 y.a) ∧ w'.cell? ⟨b2, o2 + kk * 5 + 2, none⟩ = some (.int .i64 y.b) ∧ w'.cell? ⟨b2, o2 + kk * 5 + 3, none⟩ = some (.int .i64 y.c) ∧ w'.cell? ⟨b2, o2 + kk * 5 + 4, none⟩ = some (.int .i64 y.d)) (by kernel_rfl) ?_ (fun hHeldcr => ?_)
            · exact ⟨s1, t1, x0, x1, x2, x3, x4, y0, y1, y2, y3, y4⟩
            refine wpAnyH_take (i := 0) (oi := { dst := some 27, op := Op.fieldAddr 25 (Operand.tmp 2) 1, type := 0, pos := "ref.go:31", after := _, guard := none }) (v := ?vcr0) rfl (by kernel_rfl) (by kernel_rfl) (by kernel_rfl) (fun _ _ _ h => h) (Or.inl ⟨by rfl, ?hycr0⟩) (by assumption) ?restcr0
            case hycr0 => (intro w hSw; (try dsimp only at hSw); go_simp <;> with_reducible rfl)
            try simp only [Act.put, List.setIfInBounds_toArray, List.set_cons_zero, List.set_cons_succ]
            refine wpAnyH_take (i := 1) (oi := { dst := some 28, op := Op.load 23 (Operand.tmp 27), type := 23, pos := "ref.go:31", after := _, guard := none }) (v := ?vcr1) rfl (by kernel_rfl) (by kernel_rfl) (by kernel_rfl) (fun _ _ _ h => h) (Or.inl ⟨by rfl, ?hycr1⟩) (by assumption) ?restcr1
            case hycr1 => (intro w hSw; (try dsimp only at hSw); go_simp <;> with_reducible rfl)
            try simp only [Act.put, List.setIfInBounds_toArray, List.set_cons_zero, List.set_cons_succ]
            refine wpAnyH_take (i := 2) (oi := { dst := some 29, op := Op.move (Operand.tmp 5), type := 3, pos := "ref.go:31", after := _, guard := none }) (v := ?vcr2) rfl (by kernel_rfl) (by kernel_rfl) (by kernel_rfl) (fun _ _ _ h => h) (Or.inl ⟨by rfl, ?hycr2⟩) (by assumption) ?restcr2
            case hycr2 => (intro w hSw; (try dsimp only at hSw); go_simp <;> with_reducible rfl)
            try simp only [Act.put, List.setIfInBounds_toArray, List.set_cons_zero, List.set_cons_succ]
            refine wpAnyH_take (i := 3) (oi := { dst := some 30, op := Op.indexAddr 23 (Operand.tmp 28) (Operand.tmp 29), type := 0, pos := "ref.go:31", after := _, guard := none }) (v := ?vcr3) rfl (by kernel_rfl) (by kernel_rfl) (by kernel_rfl) (fun _ _ _ h => h) (Or.inl ⟨by rfl, ?hycr3⟩) (by assumption) ?restcr3
            case hycr3 => (intro w hSw; (try dsimp only at hSw); go_simp <;> with_reducible rfl)
            try simp only [Act.put, List.setIfInBounds_toArray, List.set_cons_zero, List.set_cons_succ]
            refine wpAnyH_take (i := 4) (oi := { dst := some 31, op := Op.load 54 (Operand.tmp 30), type := 54, pos := "ref.go:31", after := _, guard := none }) (v := ?vcr4) rfl (by kernel_rfl) (by kernel_rfl) (by kernel_rfl) (fun _ _ _ h => h) (Or.inl ⟨by rfl, ?hycr4⟩) (by assumption) ?restcr4
            case hycr4 => (intro w hSw; (try dsimp only at hSw); go_simp <;> with_reducible rfl)
            try simp only [Act.put, List.setIfInBounds_toArray, List.set_cons_zero, List.set_cons_succ]
            refine wpAnyH_take (i := 5) (oi := { dst := some 32, op := Op.fieldAddr 25 (Operand.tmp 3) 1, type := 0, pos := "ref.go:31", after := _, guard := none }) (v := ?vcr5) rfl (by kernel_rfl) (by kernel_rfl) (by kernel_rfl) (fun _ _ _ h => h) (Or.inl ⟨by rfl, ?hycr5⟩) (by assumption) ?restcr5
            case hycr5 => (intro w hSw; (try dsimp only at hSw); go_simp <;> with_reducible rfl)
            try simp only [Act.put, List.setIfInBounds_toArray, List.set_cons_zero, List.set_cons_succ]
            refine wpAnyH_take (i := 6) (oi := { dst := some 33, op := Op.load 23 (Operand.tmp 32), type := 23, pos := "ref.go:31", after := _, guard := none }) (v := ?vcr6) rfl (by kernel_rfl) (by kernel_rfl) (by kernel_rfl) (fun _ _ _ h => h) (Or.inl ⟨by rfl, ?hycr6⟩) (by assumption) ?restcr6
            case hycr6 => (intro w hSw; (try dsimp only at hSw); go_simp <;> with_reducible rfl)
            try simp only [Act.put, List.setIfInBounds_toArray, List.set_cons_zero, List.set_cons_succ]
            refine wpAnyH_take (i := 7) (oi := { dst := some 34, op := Op.move (Operand.tmp 5), type := 3, pos := "ref.go:31", after := _, guard := none }) (v := ?vcr7) rfl (by kernel_rfl) (by kernel_rfl) (by kernel_rfl) (fun _ _ _ h => h) (Or.inl ⟨by rfl, ?hycr7⟩) (by assumption) ?restcr7
            case hycr7 => (intro w hSw; (try dsimp only at hSw); go_simp <;> with_reducible rfl)
            try simp only [Act.put, List.setIfInBounds_toArray, List.set_cons_zero, List.set_cons_succ]
            refine wpAnyH_take (i := 8) (oi := { dst := some 35, op := Op.indexAddr 23 (Operand.tmp 33) (Operand.tmp 34), type := 0, pos := "ref.go:31", after := _, guard := none }) (v := ?vcr8) rfl (by kernel_rfl) (by kernel_rfl) (by kernel_rfl) (fun _ _ _ h => h) (Or.inl ⟨by rfl, ?hycr8⟩) (by assumption) ?restcr8
            case hycr8 => (intro w hSw; (try dsimp only at hSw); go_simp <;> with_reducible rfl)
            try simp only [Act.put, List.setIfInBounds_toArray, List.set_cons_zero, List.set_cons_succ]
            refine wpAnyH_take (i := 9) (oi := { dst := some 36, op := Op.load 54 (Operand.tmp 35), type := 54, pos := "ref.go:31", after := _, guard := none }) (v := ?vcr9) rfl (by kernel_rfl) (by kernel_rfl) (by kernel_rfl) (fun _ _ _ h => h) (Or.inl ⟨by rfl, ?hycr9⟩) (by assumption) ?restcr9
            case hycr9 => (intro w hSw; (try dsimp only at hSw); go_simp <;> with_reducible rfl)
            try simp only [Act.put, List.setIfInBounds_toArray, List.set_cons_zero, List.set_cons_succ]
            refine wpAnyH_take (i := 10) (oi := { dst := some 37, op := Op.binOp BinOp.neq 54 (Operand.tmp 31) (Operand.tmp 36) 54, type := 4, pos := "ref.go:31", after := _, guard := none }) (v := ?vcr10) rfl (by kernel_rfl) (by kernel_rfl) (by kernel_rfl) (fun _ _ _ h => h) (Or.inl ⟨by rfl, ?hycr10⟩) (by assumption) ?restcr10
            case hycr10 => (intro w hSw; (try dsimp only at hSw); go_simp <;> with_reducible rfl)
            try simp only [Act.put, List.setIfInBounds_toArray, List.set_cons_zero, List.set_cons_succ]
            refine wpAnyH_done (by kernel_rfl) ?_ _
            go_wp2
            go_ret
            refine ⟨?_, HB.out.trans (BW.out.drew.mono HB.out.size)⟩
            have : eqL pgEq xs ys = false := by
              cases he : eqL pgEq xs ys with
              | false => rfl
              | true =>
                have := eqL_at HL.out kk hlt1 he
                rw [HX.out, HY.out, HQ.out] at this
                exact this.symm
            rw [this]
            rfl
        · have hltz : ¬ (kk : Int) < (n : Int) := by omega
          obtain rfl : n = kk := by omega
          clear HP1 HP2
          go_wp2
          go_ret
          refine ⟨?_, HB.out.trans (BW.out.mono HB.out.size)⟩
          rw [eqL_all HL.out (fun j h => AA.out j h (by rw [← HL.out]; exact h) (by rw [HN.out] at h; exact h))]
          rfl
    · have he : eqL pgEq xs ys = false := by
        cases h : eqL pgEq xs ys with
        | false => rfl
        | true => exact absurd (eqL_len h) hlen
      rw [he]
      clear hv1 hv2 he
      generalize xs.length = n at *
      generalize ys.length = m at *
      have hne : ((n : Int) != (m : Int)) = true := by simp; omega
      clear hlen
      go_enter Try.func48, Try.ntmps48
      go_wp2
      go_ret
      exact ⟨rfl, hb0⟩

end Go.Proofs.Ytoogobenjhmjjaa
namespace Go.Proofs.Ytoogobenjhmjjaa
open Go Go.RowKit
set_option linter.unusedVariables false
attribute [local go_sem ↓] Go.wp_at_zero Go.wp_at_succ

set_option maxRecDepth 100000 in
set_option maxHeartbeats 4000000 in
theorem rints_any (v1 v2 : Value) (xs ys : List Int) (w : World) (hv1 : Sl w 1 v1 xs.length (xs.flatMap encI)) (hv2 : Sl w 1 v2 ys.length (ys.flatMap encI)) :
    Calls Try.prog 49 #[v1, v2] w fun e w' => e = .returned (.bool (tabEq xs ys)) ∧ Below w.heap.size w w' := by
  obtain ⟨A1, c1, rfl, _, hm1⟩ := hv1.form
  obtain ⟨A2, c2, rfl, _, hm2⟩ := hv2.form
  by_cases hlen : xs.length = ys.length
  · have hp1 := fun h : 0 < xs.length => ints_elem hv1 h
    have hp2 := fun h : 0 < ys.length => ints_elem hv2 h
    obtain ⟨n, hn⟩ : ∃ n, xs.length = n := ⟨_, rfl⟩
    have hn2 : ys.length = n := by omega
    have hbig : n ≤ 9223372036854775807 := by unfold maxLen at hm1; omega
    have HN := Lib.hid hn
    have HN2 := Lib.hid hn2
    have HL := Lib.hid hlen
    have HP1 := Lib.hid hp1
    have HP2 := Lib.hid hp2
    rw [hn, hn2]
    clear hn hn2 hlen hp1 hp2 hv1 hv2 hm1 hm2
    go_enter Try.func49, Try.ntmps49
    go_wp2_with fail
    go_loopg [5] n (fun gg s5 wr => ∃ kk : Nat, kk ≤ n ∧ n - kk ≤ gg ∧ s5 = .int .i64 kk ∧ Hid (Below w.heap.size w wr) ∧ Hid (∀ j (h : j < xs.length) (h2 : j < ys.length), j < kk → xs[j] = ys[j]))
    case atStart => exact ⟨0, Nat.zero_le _, by omega, rfl, Below.refl _ _, fun j _ _ hj => absurd hj (Nat.not_lt_zero _)⟩
    case round =>
      obtain ⟨kk, hkk, hg, rfl, BW, AA⟩ := hrel
      by_cases hlt : kk < n
      · have hltz : (kk : Int) < (n : Int) := by omega
        have hgez : (0 : Int) ≤ (kk : Int) := by omega
        have hlt1 : kk < xs.length := by rw [HN.out]; exact hlt
        have hlt2 : kk < ys.length := by rw [HN2.out]; exact hlt
        obtain ⟨b1, o1, rfl, hb1, he1⟩ := HP1.out (by omega)
        obtain ⟨b2, o2, rfl, hb2, he2⟩ := HP2.out (by omega)
        have x0 := (BW.out.cell (p := ⟨b1, o1 + kk, none⟩) hb1).trans (he1 kk hlt1)
        have y0 := (BW.out.cell (p := ⟨b2, o2 + kk, none⟩) hb2).trans (he2 kk hlt2)
        clear he1 he2 HP1 HP2
        generalize hX : xs[kk] = x at x0
        generalize hY : ys[kk] = y at y0
        have HX := Lib.hid hX
        have HY := Lib.hid hY
        clear hX hY
        by_cases hq : x = y
        · subst hq
          go_wp2_with fail
          refine wp_region_held_drew (S := fun w' => w'.cell? ⟨b1, o1 + kk, none⟩ = some (.int .i64 x) ∧ w'.cell? ⟨b2, o2 + kk, none⟩ = some (.int .i64 x)) (by kernel_rfl) ?_ (fun hHeldbr => ?_)
          · exact ⟨x0, y0⟩
          refine wpAnyH_take (i := 0) (oi := { dst := some 17, op := Op.move (Operand.tmp 0), type := 47, pos := "ref.go:89", after := _, guard := none }) (v := ?vbr0) rfl (by kernel_rfl) (by kernel_rfl) (by kernel_rfl) (fun _ _ _ h => h) (Or.inl ⟨by rfl, ?hybr0⟩) (by assumption) ?restbr0
          case hybr0 => (intro w hSw; (try dsimp only at hSw); go_simp <;> with_reducible rfl)
          try simp only [Act.put, List.setIfInBounds_toArray, List.set_cons_zero, List.set_cons_succ]
          refine wpAnyH_take (i := 1) (oi := { dst := some 18, op := Op.move (Operand.tmp 5), type := 3, pos := "ref.go:89", after := _, guard := none }) (v := ?vbr1) rfl (by kernel_rfl) (by kernel_rfl) (by kernel_rfl) (fun _ _ _ h => h) (Or.inl ⟨by rfl, ?hybr1⟩) (by assumption) ?restbr1
          case hybr1 => (intro w hSw; (try dsimp only at hSw); go_simp <;> with_reducible rfl)
          try simp only [Act.put, List.setIfInBounds_toArray, List.set_cons_zero, List.set_cons_succ]
          refine wpAnyH_take (i := 2) (oi := { dst := some 19, op := Op.indexAddr 47 (Operand.tmp 17) (Operand.tmp 18), type := 0, pos := "ref.go:89", after := _, guard := none }) (v := ?vbr2) rfl (by kernel_rfl) (by kernel_rfl) (by kernel_rfl) (fun _ _ _ h => h) (Or.inl ⟨by rfl, ?hybr2⟩) (by assumption) ?restbr2
          case hybr2 => (intro w hSw; (try dsimp only at hSw); go_simp <;> with_reducible rfl)
          try simp only [Act.put, List.setIfInBounds_toArray, List.set_cons_zero, List.set_cons_succ]
          refine wpAnyH_take (i := 3) (oi := { dst := some 20, op := Op.load 3 (Operand.tmp 19), type := 3, pos := "ref.go:89", after := _, guard := none }) (v := ?vbr3) rfl (by kernel_rfl) (by kernel_rfl) (by kernel_rfl) (fun _ _ _ h => h) (Or.inl ⟨by rfl, ?hybr3⟩) (by assumption) ?restbr3
          case hybr3 => (intro w hSw; (try dsimp only at hSw); go_simp <;> with_reducible rfl)
          try simp only [Act.put, List.setIfInBounds_toArray, List.set_cons_zero, List.set_cons_succ]
          refine wpAnyH_take (i := 4) (oi := { dst := some 21, op := Op.move (Operand.tmp 1), type := 47, pos := "ref.go:89", after := _, guard := none }) (v := ?vbr4) rfl (by kernel_rfl) (by kernel_rfl) (by kernel_rfl) (fun _ _ _ h => h) (Or.inl ⟨by rfl, ?hybr4⟩) (by assumption) ?restbr4
          case hybr4 => (intro w hSw; (try dsimp only at hSw); go_simp <;> with_reducible rfl)
          try simp only [Act.put, List.setIfInBounds_toArray, List.set_cons_zero, List.set_cons_succ]
          refine wpAnyH_take (i := 5) (oi := { dst := some 22, op := Op.move (Operand.tmp 5), type := 3, pos := "ref.go:89", after := _, guard := none }) (v := ?vbr5) rfl (by kernel_rfl) (by kernel_rfl) (by kernel_rfl) (fun _ _ _ h => h) (Or.inl ⟨by rfl, ?hybr5⟩) (by assumption) ?restbr5
          case hybr5 => (intro w hSw; (try dsimp only at hSw); go_simp <;> with_reducible rfl)
          try simp only [Act.put, List.setIfInBounds_toArray, List.set_cons_zero, List.set_cons_succ]
          refine wpAnyH_take (i := 6) (oi := { dst := some 23, op := Op.indexAddr 47 (Operand.tmp 21) (Operand.tmp 22), type := 0, pos := "ref.go:89", after := _, guard := none }) (v := ?vbr6) rfl (by kernel_rfl) (by kernel_rfl) (by kernel_rfl) (fun _ _ _ h => h) (Or.inl ⟨by rfl, ?hybr6⟩) (by assumption) ?restbr6
          case hybr6 => (intro w hSw; (try dsimp only at hSw); go_simp <;> with_reducible rfl)
          try simp only [Act.put, List.setIfInBounds_toArray, List.set_cons_zero, List.set_cons_succ]
          refine wpAnyH_take (i := 7) (oi := { dst := some 24, op := Op.load 3 (Operand.tmp 23), type := 3, pos := "ref.go:89", after := _, guard := none }) (v := ?vbr7) rfl (by kernel_rfl) (by kernel_rfl) (by kernel_rfl) (fun _ _ _ h => h) (Or.inl ⟨by rfl, ?hybr7⟩) (by assumption) ?restbr7
          case hybr7 => (intro w hSw; (try dsimp only at hSw); go_simp <;> with_reducible rfl)
          try simp only [Act.put, List.setIfInBounds_toArray, List.set_cons_zero, List.set_cons_succ]
          refine wpAnyH_take (i := 8) (oi := { dst := some 25, op := Op.binOp BinOp.neq 3 (Operand.tmp 20) (Operand.tmp 24) 3, type := 4, pos := "ref.go:89", after := _, guard := none }) (v := ?vbr8) rfl (by kernel_rfl) (by kernel_rfl) (by kernel_rfl) (fun _ _ _ h => h) (Or.inl ⟨by rfl, ?hybr8⟩) (by assumption) ?restbr8
          case hybr8 => (intro w hSw; (try dsimp only at hSw); go_simp <;> with_reducible rfl)
          try simp only [Act.put, List.setIfInBounds_toArray, List.set_cons_zero, List.set_cons_succ]
          refine wpAnyH_done (by kernel_rfl) ?_ _
          go_wp2
          go_roundg (n - (kk + 1))
          case measure => omega
          case rel =>
            refine ⟨kk + 1, by omega, by omega, by go_num, BW.out.drew, (show Hid _ from fun j h h2 hj => ?_)⟩
            by_cases e : j = kk
            · subst e
              rw [HX.out, HY.out]
            · exact AA.out j h h2 (by omega)
        · have hq' : (x != y) = true := by simpa using hq
          go_wp2_with fail
          refine wp_region_held_drew (S := fun w' => w'.cell? ⟨b1, o1 + kk, none⟩ = some (.int .i64 x) ∧ w'.cell? ⟨b2, o2 + kk, none⟩ = some (.int .i64 y)) (by kernel_rfl) ?_ (fun hHeldcr => ?_)
          · exact ⟨x0, y0⟩
          refine wpAnyH_take (i := 0) (oi := { dst := some 17, op := Op.move (Operand.tmp 0), type := 47, pos := "ref.go:89", after := _, guard := none }) (v := ?vcr0) rfl (by kernel_rfl) (by kernel_rfl) (by kernel_rfl) (fun _ _ _ h => h) (Or.inl ⟨by rfl, ?hycr0⟩) (by assumption) ?restcr0
          case hycr0 => (intro w hSw; (try dsimp only at hSw); go_simp <;> with_reducible rfl)
          try simp only [Act.put, List.setIfInBounds_toArray, List.set_cons_zero, List.set_cons_succ]
          refine wpAnyH_take (i := 1) (oi := { dst := some 18, op := Op.move (Operand.tmp 5), type := 3, pos := "ref.go:89", after := _, guard := none }) (v := ?vcr1) rfl (by kernel_rfl) (by kernel_rfl) (by kernel_rfl) (fun _ _ _ h => h) (Or.inl ⟨by rfl, ?hycr1⟩) (by assumption) ?restcr1
          case hycr1 => (intro w hSw; (try dsimp only at hSw); go_simp <;> with_reducible rfl)
          try simp only [Act.put, List.setIfInBounds_toArray, List.set_cons_zero, List.set_cons_succ]
          refine wpAnyH_take (i := 2) (oi := { dst := some 19, op := Op.indexAddr 47 (Operand.tmp 17) (Operand.tmp 18), type := 0, pos := "ref.go:89", after := _, guard := none }) (v := ?vcr2) rfl (by kernel_rfl) (by kernel_rfl) (by kernel_rfl) (fun _ _ _ h => h) (Or.inl ⟨by rfl, ?hycr2⟩) (by assumption) ?restcr2
          case hycr2 => (intro w hSw; (try dsimp only at hSw); go_simp <;> with_reducible rfl)
          try simp only [Act.put, List.setIfInBounds_toArray, List.set_cons_zero, List.set_cons_succ]
          refine wpAnyH_take (i := 3) (oi := { dst := some 20, op := Op.load 3 (Operand.tmp 19), type := 3, pos := "ref.go:89", after := _, guard := none }) (v := ?vcr3) rfl (by kernel_rfl) (by kernel_rfl) (by kernel_rfl) (fun _ _ _ h => h) (Or.inl ⟨by rfl, ?hycr3⟩) (by assumption) ?restcr3
          case hycr3 => (intro w hSw; (try dsimp only at hSw); go_simp <;> with_reducible rfl)
          try simp only [Act.put, List.setIfInBounds_toArray, List.set_cons_zero, List.set_cons_succ]
          refine wpAnyH_take (i := 4) (oi := { dst := some 21, op := Op.move (Operand.tmp 1), type := 47, pos := "ref.go:89", after := _, guard := none }) (v := ?vcr4) rfl (by kernel_rfl) (by kernel_rfl) (by kernel_rfl) (fun _ _ _ h => h) (Or.inl ⟨by rfl, ?hycr4⟩) (by assumption) ?restcr4
          case hycr4 => (intro w hSw; (try dsimp only at hSw); go_simp <;> with_reducible rfl)
          try simp only [Act.put, List.setIfInBounds_toArray, List.set_cons_zero, List.set_cons_succ]
          refine wpAnyH_take (i := 5) (oi := { dst := some 22, op := Op.move (Operand.tmp 5), type := 3, pos := "ref.go:89", after := _, guard := none }) (v := ?vcr5) rfl (by kernel_rfl) (by kernel_rfl) (by kernel_rfl) (fun _ _ _ h => h) (Or.inl ⟨by rfl, ?hycr5⟩) (by assumption) ?restcr5
          case hycr5 => (intro w hSw; (try dsimp only at hSw); go_simp <;> with_reducible rfl)
          try simp only [Act.put, List.setIfInBounds_toArray, List.set_cons_zero, List.set_cons_succ]
          refine wpAnyH_take (i := 6) (oi := { dst := some 23, op := Op.indexAddr 47 (Operand.tmp 21) (Operand.tmp 22), type := 0, pos := "ref.go:89", after := _, guard := none }) (v := ?vcr6) rfl (by kernel_rfl) (by kernel_rfl) (by kernel_rfl) (fun _ _ _ h => h) (Or.inl ⟨by rfl, ?hycr6⟩) (by assumption) ?restcr6
          case hycr6 => (intro w hSw; (try dsimp only at hSw); go_simp <;> with_reducible rfl)
          try simp only [Act.put, List.setIfInBounds_toArray, List.set_cons_zero, List.set_cons_succ]
          refine wpAnyH_take (i := 7) (oi := { dst := some 24, op := Op.load 3 (Operand.tmp 23), type := 3, pos := "ref.go:89", after := _, guard := none }) (v := ?vcr7) rfl (by kernel_rfl) (by kernel_rfl) (by kernel_rfl) (fun _ _ _ h => h) (Or.inl ⟨by rfl, ?hycr7⟩) (by assumption) ?restcr7
          case hycr7 => (intro w hSw; (try dsimp only at hSw); go_simp <;> with_reducible rfl)
          try simp only [Act.put, List.setIfInBounds_toArray, List.set_cons_zero, List.set_cons_succ]
          refine wpAnyH_take (i := 8) (oi := { dst := some 25, op := Op.binOp BinOp.neq 3 (Operand.tmp 20) (Operand.tmp 24) 3, type := 4, pos := "ref.go:89", after := _, guard := none }) (v := ?vcr8) rfl (by kernel_rfl) (by kernel_rfl) (by kernel_rfl) (fun _ _ _ h => h) (Or.inl ⟨by rfl, ?hycr8⟩) (by assumption) ?restcr8
          case hycr8 => (intro w hSw; (try dsimp only at hSw); go_simp <;> with_reducible rfl)
          try simp only [Act.put, List.setIfInBounds_toArray, List.set_cons_zero, List.set_cons_succ]
          refine wpAnyH_done (by kernel_rfl) ?_ _
          go_wp2
          go_ret
          refine ⟨?_, BW.out.drew⟩
          have : tabEq xs ys = false := by
            cases he : tabEq xs ys with
            | false => rfl
            | true =>
              have := eqL_at HL.out kk hlt1 he
              rw [HX.out, HY.out] at this
              simp [intEq] at this
              exact absurd this hq
          rw [this]
          rfl
      · have hltz : ¬ (kk : Int) < (n : Int) := by omega
        obtain rfl : n = kk := by omega
        clear HP1 HP2
        go_wp2
        go_ret
        refine ⟨?_, BW.out⟩
        have : tabEq xs ys = true := eqL_all HL.out (fun j h => by
          have := AA.out j h (by rw [← HL.out]; exact h) (by rw [HN.out] at h; exact h)
          simp [intEq, this])
        rw [this]
        rfl
  · have he : tabEq xs ys = false := by
      cases h : tabEq xs ys with
      | false => rfl
      | true => exact absurd (eqL_len h) hlen
    rw [he]
    clear hv1 hv2 he hm1 hm2
    generalize xs.length = n at *
    generalize ys.length = m at *
    have hne : ((n : Int) != (m : Int)) = true := by simp; omega
    clear hlen
    go_enter Try.func49, Try.ntmps49
    go_wp2
    go_ret
    exact ⟨rfl, Below.refl _ _⟩
end Go.Proofs.Ytoogobenjhmjjaa
namespace Go.Proofs.Ytoogobenjhmjjaa
open Go Go.RowKit
set_option linter.unusedVariables false
attribute [local go_sem ↓] Go.wp_at_zero Go.wp_at_succ

set_option maxRecDepth 100000 in
set_option maxHeartbeats 4000000 in
theorem tRSame_any (v1 v2 : Value) (k1 k2 : Int) (ps1 ps2 : List Pg) (xs ys : List (List Int)) (w : World) (hv1 : HpV w v1 k1 ps1 xs) (hv2 : HpV w v2 k2 ps2 ys) :
    Calls Try.prog 23 #[v1, v2] w fun e w' => e = .returned (.bool (sameH k1 ps1 xs k2 ps2 ys)) ∧ Below w.heap.size w w' := by
  obtain ⟨A1, c1, B1, e1, rfl, hv1⟩ := hv1.form
  obtain ⟨A2, c2, B2, e2, rfl, hv2⟩ := hv2.form
  have hb0 := ((Below.refl w.heap.size w).alloc (Nat.le_refl _) (.cells #[.int .i64 k1, .slice A1 ps1.length c1, .slice B1 xs.length e1] 28)).alloc (by simp) (.cells #[.int .i64 k2, .slice A2 ps2.length c2, .slice B2 ys.length e2] 28)
  have q0 := (Blk.new_ w 28 #[.int .i64 k1, .slice A1 ps1.length c1, .slice B1 xs.length e1] _ rfl).alloc (.cells #[.int .i64 k2, .slice A2 ps2.length c2, .slice B2 ys.length e2] 28)
  have q1 := Blk.new_ (w.alloc (.cells #[.int .i64 k1, .slice A1 ps1.length c1, .slice B1 xs.length e1] 28)) 28 #[.int .i64 k2, .slice A2 ps2.length c2, .slice B2 ys.length e2] (w.heap.size + 1) (by simp)
  have hcS := RSame_any (.agg #[.int .i64 k1, .slice A1 ps1.length c1]) (.agg #[.int .i64 k2, .slice A2 ps2.length c2]) k1 k2 ps1 ps2 _ (hv1.keep hb0).store (hv2.keep hb0).store
  have hl1 := hv1.tabs.form
  obtain ⟨_, _, _, hn1, hn2⟩ := hv1.tabs.form
  have hbig : xs.length ≤ 9223372036854775807 := by unfold maxLen at hn2; omega
  clear hl1 hn1 hn2
  cases hs : sameP k1 ps1 k2 ps2 with
  | false =>
    rw [show sameH k1 ps1 xs k2 ps2 ys = false from by unfold sameH; rw [hs]; rfl]
    rw [hs] at hcS
    clear hs hv1 hv2 hbig q0 q1
    go_enter Try.func23, Try.ntmps23
    go_wp2_with fail
    refine hcS.mono ?_
    rintro e w1 ⟨rfl, hb1⟩
    go_wp2
    go_ret
    exact ⟨rfl, hb0.trans (hb1.mono hb0.size)⟩
  | true =>
    rw [hs] at hcS
    have HS := Lib.hid (show sameH k1 ps1 xs k2 ps2 ys = eqR tabEq xs ys from by unfold sameH; rw [hs]; rfl)
    clear hs
    by_cases hlen : xs.length = ys.length
    · obtain ⟨n, hn⟩ : ∃ n, n = xs.length := ⟨_, rfl⟩
      have hn2 : n = ys.length := by omega
      rw [HS.out]
      rw [← hn] at hbig
      rw [← hn, ← hn2] at hb0 q0 q1 hcS ⊢
      have hp1 := fun h : 0 < n => (hv1.keep hb0).tabs.elem (by omega)
      have hp2 := fun h : 0 < n => (hv2.keep hb0).tabs.elem (by omega)
      have HL := Lib.hid hlen
      have HN := Lib.hid hn
      have HN2 := Lib.hid hn2
      have HP1 := Lib.hid hp1
      have HP2 := Lib.hid hp2
      clear hp1 hp2 hv1 hv2 hn hn2 hlen HS
      have HB := Lib.hid hb0
      have K0 := Lib.hid q0
      have K1 := Lib.hid q1
      clear q0 q1
      go_enter Try.func23, Try.ntmps23
      go_wp2_with fail
      refine hcS.mono ?_
      rintro e w1 ⟨rfl, hb1⟩
      have hY1 := hb0.trans (hb1.mono hb0.size)
      have kA := K0.out.keep hb1
      have kB := K1.out.keep hb1
      have p2 : w1.cell? ⟨w.heap.size, 2, none⟩ = some (.slice B1 n e1) := by rw [kA.cell]; rfl
      have r2 : w1.cell? ⟨w.heap.size + 1, 2, none⟩ = some (.slice B2 n e2) := by rw [kB.cell]; rfl
      have HB1 := Lib.hid hb1
      have HY1 := Lib.hid hY1
      have HA := Lib.hid kA
      have HBB := Lib.hid kB
      clear hb0 hb1 hY1 kA kB hcS
      go_wp2_with fail
      clear p2 r2
      go_loopg [6] n (fun gg s6 wr => ∃ kk : Nat, kk ≤ n ∧ n - kk ≤ gg ∧ s6 = .int .i64 kk ∧ Hid (Below w1.heap.size w1 wr) ∧ Hid (∀ j (h : j < xs.length) (h2 : j < ys.length), j < kk → tabEq xs[j] ys[j] = true))
      case atStart => exact ⟨0, Nat.zero_le _, by omega, rfl, Below.refl _ _, fun j _ _ hj => absurd hj (Nat.not_lt_zero _)⟩
      case round =>
        obtain ⟨kk, hkk, hg, rfl, BW, AA⟩ := hrel
        have kA := HA.out.keep BW.out
        have kB := HBB.out.keep BW.out
        have l0 := kA.lt
        have l1 := kB.lt
        have p2 : wr.cell? ⟨w.heap.size, 2, none⟩ = some (.slice B1 n e1) := by rw [kA.cell]; rfl
        have r2 : wr.cell? ⟨w.heap.size + 1, 2, none⟩ = some (.slice B2 n e2) := by rw [kB.cell]; rfl
        clear kA kB
        by_cases hlt : kk < n
        · have hltz : (kk : Int) < (n : Int) := by omega
          have hgez : (0 : Int) ≤ (kk : Int) := by omega
          have hlt1 : kk < xs.length := by have := HN.out; omega
          have hlt2 : kk < ys.length := by have := HN2.out; omega
          obtain ⟨b1, o1, rfl, hb1, he1⟩ := HP1.out (by omega)
          obtain ⟨b2, o2, rfl, hb2, he2⟩ := HP2.out (by omega)
          have hX := HB1.out.trans (BW.out.mono HB1.out.size)
          obtain ⟨A3, c3, x0, s3⟩ := he1 kk hlt1
          obtain ⟨A4, c4, y0, s4⟩ := he2 kk hlt2
          have x0 := (hX.cell (p := ⟨b1, o1 + kk, none⟩) hb1).trans x0
          have y0 := (hX.cell (p := ⟨b2, o2 + kk, none⟩) hb2).trans y0
          have lb1 : b1 < wr.heap.size := Nat.lt_of_lt_of_le hb1 hX.size
          have lb2 : b2 < wr.heap.size := Nat.lt_of_lt_of_le hb2 hX.size
          have hI := fun (W : World) (h : Below wr.heap.size wr W) => rints_any (.slice A3 xs[kk].length c3) (.slice A4 ys[kk].length c4) xs[kk] ys[kk] W (s3.below (hX.trans (h.mono hX.size))) (s4.below (hX.trans (h.mono hX.size)))
          clear he1 he2 HP1 HP2 hX s3 s4
          have BWD := (Below.refl wr.heap.size wr).drew
          generalize hq : tabEq xs[kk] ys[kk] = q at hI
          have HQ := Lib.hid hq
          generalize xs[kk].length = m3 at *
          generalize ys[kk].length = m4 at *
          clear hq
          go_wp2_with fail
          refine wp_region_held_drew (S := fun w' => w'.cell? ⟨w.heap.size, 2, none⟩ = some (.slice (some ⟨b1, o1, none⟩) n e1) ∧ w'.cell? ⟨w.heap.size + 1, 2, none⟩ = some (.slice (some ⟨b2, o2, none⟩) n e2) ∧ w'.cell? ⟨b1, o1 + kk, none⟩ = some (.slice A3 m3 c3) ∧ w'.cell? ⟨b2, o2 + kk, none⟩ = some (.slice A4 m4 c4)) (by kernel_rfl) ?_ (fun hHeldbr => ?_)
          · exact ⟨p2, r2, x0, y0⟩
          refine wpAnyH_take (i := 0) (oi := { dst := some 31, op := Op.fieldAddr 28 (Operand.tmp 2) 1, type := 0, pos := "ref.go:64", after := _, guard := none }) (v := ?vbr0) rfl (by kernel_rfl) (by kernel_rfl) (by kernel_rfl) (fun _ _ _ h => h) (Or.inl ⟨by rfl, ?hybr0⟩) (by assumption) ?restbr0
          case hybr0 => (intro w hSw; (try dsimp only at hSw); go_simp <;> with_reducible rfl)
          try simp only [Act.put, List.setIfInBounds_toArray, List.set_cons_zero, List.set_cons_succ]
          refine wpAnyH_take (i := 1) (oi := { dst := some 32, op := Op.load 26 (Operand.tmp 31), type := 26, pos := "ref.go:64", after := _, guard := none }) (v := ?vbr1) rfl (by kernel_rfl) (by kernel_rfl) (by kernel_rfl) (fun _ _ _ h => h) (Or.inl ⟨by rfl, ?hybr1⟩) (by assumption) ?restbr1
          case hybr1 => (intro w hSw; (try dsimp only at hSw); go_simp <;> with_reducible rfl)
          try simp only [Act.put, List.setIfInBounds_toArray, List.set_cons_zero, List.set_cons_succ]
          refine wpAnyH_take (i := 2) (oi := { dst := some 33, op := Op.move (Operand.tmp 6), type := 3, pos := "ref.go:64", after := _, guard := none }) (v := ?vbr2) rfl (by kernel_rfl) (by kernel_rfl) (by kernel_rfl) (fun _ _ _ h => h) (Or.inl ⟨by rfl, ?hybr2⟩) (by assumption) ?restbr2
          case hybr2 => (intro w hSw; (try dsimp only at hSw); go_simp <;> with_reducible rfl)
          try simp only [Act.put, List.setIfInBounds_toArray, List.set_cons_zero, List.set_cons_succ]
          refine wpAnyH_take (i := 3) (oi := { dst := some 34, op := Op.indexAddr 26 (Operand.tmp 32) (Operand.tmp 33), type := 0, pos := "ref.go:64", after := _, guard := none }) (v := ?vbr3) rfl (by kernel_rfl) (by kernel_rfl) (by kernel_rfl) (fun _ _ _ h => h) (Or.inl ⟨by rfl, ?hybr3⟩) (by assumption) ?restbr3
          case hybr3 => (intro w hSw; (try dsimp only at hSw); go_simp <;> with_reducible rfl)
          try simp only [Act.put, List.setIfInBounds_toArray, List.set_cons_zero, List.set_cons_succ]
          refine wpAnyH_take (i := 4) (oi := { dst := some 35, op := Op.load 47 (Operand.tmp 34), type := 47, pos := "ref.go:64", after := _, guard := none }) (v := ?vbr4) rfl (by kernel_rfl) (by kernel_rfl) (by kernel_rfl) (fun _ _ _ h => h) (Or.inl ⟨by rfl, ?hybr4⟩) (by assumption) ?restbr4
          case hybr4 => (intro w hSw; (try dsimp only at hSw); go_simp <;> with_reducible rfl)
          try simp only [Act.put, List.setIfInBounds_toArray, List.set_cons_zero, List.set_cons_succ]
          refine wpAnyH_take (i := 5) (oi := { dst := some 36, op := Op.fieldAddr 28 (Operand.tmp 3) 1, type := 0, pos := "ref.go:64", after := _, guard := none }) (v := ?vbr5) rfl (by kernel_rfl) (by kernel_rfl) (by kernel_rfl) (fun _ _ _ h => h) (Or.inl ⟨by rfl, ?hybr5⟩) (by assumption) ?restbr5
          case hybr5 => (intro w hSw; (try dsimp only at hSw); go_simp <;> with_reducible rfl)
          try simp only [Act.put, List.setIfInBounds_toArray, List.set_cons_zero, List.set_cons_succ]
          refine wpAnyH_take (i := 6) (oi := { dst := some 37, op := Op.load 26 (Operand.tmp 36), type := 26, pos := "ref.go:64", after := _, guard := none }) (v := ?vbr6) rfl (by kernel_rfl) (by kernel_rfl) (by kernel_rfl) (fun _ _ _ h => h) (Or.inl ⟨by rfl, ?hybr6⟩) (by assumption) ?restbr6
          case hybr6 => (intro w hSw; (try dsimp only at hSw); go_simp <;> with_reducible rfl)
          try simp only [Act.put, List.setIfInBounds_toArray, List.set_cons_zero, List.set_cons_succ]
          refine wpAnyH_take (i := 7) (oi := { dst := some 38, op := Op.move (Operand.tmp 6), type := 3, pos := "ref.go:64", after := _, guard := none }) (v := ?vbr7) rfl (by kernel_rfl) (by kernel_rfl) (by kernel_rfl) (fun _ _ _ h => h) (Or.inl ⟨by rfl, ?hybr7⟩) (by assumption) ?restbr7
          case hybr7 => (intro w hSw; (try dsimp only at hSw); go_simp <;> with_reducible rfl)
          try simp only [Act.put, List.setIfInBounds_toArray, List.set_cons_zero, List.set_cons_succ]
          refine wpAnyH_take (i := 8) (oi := { dst := some 39, op := Op.indexAddr 26 (Operand.tmp 37) (Operand.tmp 38), type := 0, pos := "ref.go:64", after := _, guard := none }) (v := ?vbr8) rfl (by kernel_rfl) (by kernel_rfl) (by kernel_rfl) (fun _ _ _ h => h) (Or.inl ⟨by rfl, ?hybr8⟩) (by assumption) ?restbr8
          case hybr8 => (intro w hSw; (try dsimp only at hSw); go_simp <;> with_reducible rfl)
          try simp only [Act.put, List.setIfInBounds_toArray, List.set_cons_zero, List.set_cons_succ]
          refine wpAnyH_take (i := 9) (oi := { dst := some 40, op := Op.load 47 (Operand.tmp 39), type := 47, pos := "ref.go:64", after := _, guard := none }) (v := ?vbr9) rfl (by kernel_rfl) (by kernel_rfl) (by kernel_rfl) (fun _ _ _ h => h) (Or.inl ⟨by rfl, ?hybr9⟩) (by assumption) ?restbr9
          case hybr9 => (intro w hSw; (try dsimp only at hSw); go_simp <;> with_reducible rfl)
          try simp only [Act.put, List.setIfInBounds_toArray, List.set_cons_zero, List.set_cons_succ]
          refine wpAnyH_ready (rs := [10]) (by kernel_rfl) (by simp) ?_
          refine AllReadyH.cons (o := { dst := some 41, op := Op.call { callee := Callee.value (Operand.func 49), args := #[Operand.tmp 35, Operand.tmp 40], argTypes := #[47, 47] }, type := 4, pos := "ref.go:64", after := _, guard := none }) rfl (fun K hK => ?_) AllReadyH.nil
          go_simp
          refine (hI _ BWD).mono ?_
          rintro x w3 ⟨rfl, hb3⟩
          have BX := BWD.trans (hb3.mono BWD.size)
          try go_wp2_with fail
          refine hK.out _ _ ?_ (fun hHeldbr10 => ?_)
          · exact ⟨(BX.cell (p := ⟨w.heap.size, 2, none⟩) l0).trans p2, (BX.cell (p := ⟨w.heap.size + 1, 2, none⟩) l1).trans r2, (BX.cell (p := ⟨b1, o1 + kk, none⟩) lb1).trans x0, (BX.cell (p := ⟨b2, o2 + kk, none⟩) lb2).trans y0⟩
          clear hK K hHeldbr
          try simp only [Act.put, List.setIfInBounds_toArray, List.set_cons_zero, List.set_cons_succ]
          refine wpAnyH_take (i := 11) (oi := { dst := some 7, op := Op.assign (Operand.tmp 41), type := 4, pos := "ref.go:64", after := _, guard := none }) (v := ?vbr11) rfl (by kernel_rfl) (by kernel_rfl) (by kernel_rfl) (fun _ _ _ h => h) (Or.inl ⟨by rfl, ?hybr11⟩) (by assumption) ?restbr11
          case hybr11 => (intro w hSw; (try dsimp only at hSw); go_simp <;> with_reducible rfl)
          try simp only [Act.put, List.setIfInBounds_toArray, List.set_cons_zero, List.set_cons_succ]
          refine wpAnyH_done (by kernel_rfl) ?_ _
          have BY := Lib.hid (BW.out.trans (BX.mono BW.out.size))
          clear BX p2 r2 x0 y0 BWD
          cases q with
          | true =>
            go_wp2
            go_roundg (n - (kk + 1))
            case measure => omega
            case rel =>
              refine ⟨kk + 1, by omega, by omega, by go_num, BY, (show Hid _ from fun j h h2 hj => ?_)⟩
              by_cases e : j = kk
              · subst e; exact HQ.out
              · exact AA.out j h h2 (by omega)
          | false =>
            go_wp2
            go_ret
            refine ⟨?_, HY1.out.trans (BY.out.mono HY1.out.size)⟩
            have : eqR tabEq xs ys = false := by
              cases he : eqR tabEq xs ys with
              | false => rfl
              | true =>
                have := eqR_at kk hlt1 hlt2 he
                rw [HQ.out] at this
                cases this
            rw [this]
            rfl
        · have hltz : ¬ (kk : Int) < (n : Int) := by omega
          obtain rfl : n = kk := by omega
          clear HP1 HP2
          go_wp2
          go_ret
          refine ⟨?_, HY1.out.trans (BW.out.mono HY1.out.size)⟩
          rw [eqR_all HL.out (fun j h h2 => AA.out j h h2 (by have := HN.out; omega))]
          rfl
    · have he : eqR tabEq xs ys = false := by
        cases h : eqR tabEq xs ys with
        | false => rfl
        | true => exact absurd (eqR_len h) hlen
      rw [HS.out, he]
      have kA := q0
      have kB := q1
      have HK0 := Lib.hid q0
      have HK1 := Lib.hid q1
      clear hv1 hv2 he HS q0 q1 kA kB
      generalize xs.length = n at *
      generalize ys.length = m at *
      have hne : ((n : Int) != (m : Int)) = true := by simp; omega
      clear hlen
      go_enter Try.func23, Try.ntmps23
      go_wp2_with fail
      refine hcS.mono ?_
      rintro e w1 ⟨rfl, hb1⟩
      have hY1 := hb0.trans (hb1.mono hb0.size)
      have kA := HK0.out.keep hb1
      have kB := HK1.out.keep hb1
      have p2 : w1.cell? ⟨w.heap.size, 2, none⟩ = some (.slice B1 n e1) := by rw [kA.cell]; rfl
      have r2 : w1.cell? ⟨w.heap.size + 1, 2, none⟩ = some (.slice B2 m e2) := by rw [kB.cell]; rfl
      clear hb0 hb1 kA kB hcS
      go_wp2
      go_ret
      exact ⟨rfl, hY1⟩
end Go.Proofs.Ytoogobenjhmjjaa
namespace Go.Proofs.Ytoogobenjhmjjaa
open Go Go.RowKit
set_option linter.unusedVariables false
attribute [local go_sem ↓] Go.wp_at_zero Go.wp_at_succ

theorem count_take_succ (t : List Int) (k : Nat) (hk : k < t.length) (p : Int) : (t.take (k + 1)).count p = (t.take k).count p + if t[k] = p then 1 else 0 := by
  rw [List.take_succ_eq_append_getElem hk, List.count_append]
  congr 1
  by_cases h : t[k] = p
  · rw [if_pos h, h]; simp
  · rw [if_neg h]; simp [h]
theorem flat_take_succ (ts : List (List Int)) (i : Nat) (hi : i < ts.length) (p : Int) : (ts.take (i + 1)).flatten.count p = (ts.take i).flatten.count p + ts[i].count p := by
  rw [List.take_succ_eq_append_getElem hi, List.flatten_append, List.count_append]
  simp
theorem flat_take_le (ts : List (List Int)) (hl : ∀ t ∈ ts, t.length ≤ 1000) (p : Int) : ∀ i, i ≤ ts.length → (ts.take i).flatten.count p ≤ i * 1000
  | 0, _ => by simp
  | i + 1, h => by
    rw [flat_take_succ ts i h p]
    have := flat_take_le ts hl p i (by omega)
    have := hl ts[i] (List.getElem_mem _)
    have := List.count_le_length (a := p) (l := ts[i])
    omega

set_option maxRecDepth 100000 in
set_option maxHeartbeats 4000000 in
theorem rstands_any (v : Value) (cap p : Int) (ps : List Pg) (ts : List (List Int)) (w : World) (hv : HpV w v cap ps ts) (hm : ts.length ≤ 1000) (hl : ∀ t ∈ ts, t.length ≤ 1000) :
    Calls Try.prog 51 #[v, .int .i64 p] w fun e w' => e = .returned (.int .i64 ((ts.flatten.count p : Nat) : Int)) ∧ Below w.heap.size w w' := by
  obtain ⟨A, c, B, d, rfl, hv⟩ := hv.form
  have hT := hv.tabs
  have hb0 := (Below.refl w.heap.size w).alloc (Nat.le_refl _) (.cells #[.int .i64 cap, .slice A ps.length c, .slice B ts.length d] 28)
  obtain ⟨n, hn⟩ : ∃ n, n = ts.length := ⟨_, rfl⟩
  have hE := fun h0 : 0 < n => hT.elem (by omega)
  have HF := Lib.hid (fun i hi => flat_take_le ts hl p i hi)
  have HL := Lib.hid hl
  rw [← hn] at hb0 ⊢
  have HN := Lib.hid hn
  have HE := Lib.hid hE
  have hnb : n ≤ 1000 := by omega
  clear hv hT hE hm hl hn
  have kB : ∀ i, (w.alloc (.cells #[.int .i64 cap, .slice A ps.length c, .slice B n d] 28)).cell? ⟨w.heap.size, i, none⟩ = #[.int .i64 cap, .slice A ps.length c, .slice B n d][i]? := (Blk.new_ _ _ _ _ rfl).cell
  go_enter Try.func51, Try.ntmps51
  go_wp2
  go_loop [5, 6] (fun n5 i6 => ∃ i q : Nat, i ≤ n ∧ i6 = .int .i64 i ∧ n5 = .int .i64 (q : Int) ∧ Hid (q = (ts.take i).flatten.count p)) (fun _ i6 => n - (intOf i6).toNat)
  case atStart => exact ⟨0, 0, Nat.zero_le _, rfl, rfl, (show Hid _ from rfl)⟩
  case round =>
    obtain ⟨i, q, hi, rfl, rfl, HQ⟩ := hrel
    by_cases hlt : i < n
    · have hit : i < ts.length := by have := HN.out; omega
      obtain ⟨b, o, rfl, hb, hel⟩ := HE.out (by omega)
      obtain ⟨Ai, ci, x0, hsi⟩ := hel i hit
      have hF := HF.out (i + 1) (by have := HN.out; omega)
      have hF0 := flat_take_succ ts i hit p
      have hLi := HL.out ts[i] (List.getElem_mem _)
      obtain ⟨m, hm⟩ : ∃ m, m = ts[i].length := ⟨_, rfl⟩
      have hI := fun h0 : 0 < m => ints_elem hsi (by omega)
      rw [← hm] at x0 hLi
      have HM := Lib.hid hm
      have HF0 := Lib.hid hF0
      have hF1 : q ≤ i * 1000 := by rw [HQ.out]; exact HF.out i (by have := HN.out; omega)
      have HI := Lib.hid hI
      clear hm hF0 hI hel hF hsi
      have hi0 : (0 : Int) ≤ (i : Int) := by omega
      have hi1 : (i : Int) < (n : Int) := by omega
      go_wp2
      go_loop [5, 7] (fun n5 k7 => ∃ k r : Nat, k ≤ m ∧ k7 = .int .i64 k ∧ n5 = .int .i64 ((q + r : Nat) : Int) ∧ Hid (r = (ts[i].take k).count p)) (fun _ k7 => m - (intOf k7).toNat)
      case atStart => exact ⟨0, 0, Nat.zero_le _, rfl, rfl, (show Hid _ from rfl)⟩
      case round =>
        obtain ⟨k, r, hk, rfl, rfl, HR⟩ := hrel
        by_cases hkt : k < m
        · have hkl : k < ts[i].length := by have := HM.out; omega
          obtain ⟨b2, o2, rfl, hb2, he2⟩ := HI.out (by omega)
          have y0 := he2 k hkl
          have HS := Lib.hid (count_take_succ ts[i] k hkl p)
          have hc : r ≤ k := by rw [HR.out]; exact Nat.le_trans (List.count_le_length) (List.length_take_le _ _)
          clear he2
          have hk0 : (0 : Int) ≤ (k : Int) := by omega
          have hk1 : (k : Int) < (m : Int) := by omega
          obtain ⟨y, hy⟩ : ∃ y, y = ts[i][k] := ⟨_, rfl⟩
          rw [← hy] at y0
          have HY := Lib.hid hy
          clear hy
          by_cases hyp : y = p
          · have hb : (y == p) = true := by simpa using hyp
            have HYP := Lib.hid hyp
            clear hyp
            go_wp2
            go_round
            case rel => exact ⟨k + 1, r + 1, by omega, by go_num, by go_num, (show Hid _ from by rw [HS.out, ← HR.out, ← HY.out, if_pos HYP.out]; rfl)⟩
            case measure => simp [intOf]; omega
          · have hb : (y == p) = false := by simpa using hyp
            have HYP := Lib.hid hyp
            clear hyp
            go_wp2
            go_round
            case rel => exact ⟨k + 1, r, by omega, by go_num, rfl, (show Hid _ from by rw [HS.out, ← HR.out, ← HY.out, if_neg HYP.out]; rfl)⟩
            case measure => simp [intOf]; omega
        · obtain rfl : k = m := by omega
          go_wp2
          go_round
          case rel => exact ⟨i + 1, q + r, by omega, by go_num, rfl, (show Hid _ from by rw [HF0.out, ← HQ.out, HR.out, List.take_of_length_le (by have := HM.out; omega)]; rfl)⟩
          case measure => simp [intOf]; omega
    · obtain rfl : i = n := by omega
      go_wp2
      go_ret
      refine ⟨?_, hb0⟩
      have := HQ.out
      rw [List.take_of_length_le (by have := HN.out; omega)] at this
      rw [← this]
      rfl
end Go.Proofs.Ytoogobenjhmjjaa
