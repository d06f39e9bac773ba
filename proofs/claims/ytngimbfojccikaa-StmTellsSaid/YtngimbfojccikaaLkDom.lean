/- lock.do. -/
import Derived.Test.YtngimbfojccikaaStmTellsB
namespace Go.Proofs.Ytngimbfojccikaa
set_option linter.unusedSimpArgs false
open Go Go.RowKit
set_option linter.unusedVariables false
attribute [local go_sem ↓] Go.wp_at_zero Go.wp_at_succ

/-- The value v reads as locks: the clock, its end, the locks. -/
def LkV (w : World) (v : Value) (now mx : Int) (ls : List Lk) : Prop := ∃ sv, v = .agg #[.int .i64 now, .int .i64 mx, sv] ∧ Sl w 2 sv ls.length (ls.flatMap encL)

/-- It does, and its row is new: none from below base. -/
def LkO (w : World) (base : Nat) (v : Value) (now mx : Int) (ls : List Lk) : Prop := ∃ sv, v = .agg #[.int .i64 now, .int .i64 mx, sv] ∧ RowL w base sv ls

theorem LkV.keep {w w' : World} {v : Value} {now mx : Int} {ls : List Lk} (h : LkV w v now mx ls) (hb : Below w.heap.size w w') : LkV w' v now mx ls := by
  obtain ⟨sv, rfl, h⟩ := h
  exact ⟨sv, rfl, h.below hb⟩
theorem LkO.keep {w w' : World} {base : Nat} {v : Value} {now mx : Int} {ls : List Lk} (h : LkO w base v now mx ls) (hb : Below w.heap.size w w') : LkO w' base v now mx ls := by
  obtain ⟨sv, rfl, h⟩ := h
  exact ⟨sv, rfl, h.keep hb⟩
theorem LkO.to {w : World} {base : Nat} {v : Value} {now mx : Int} {ls : List Lk} (h : LkO w base v now mx ls) : LkV w v now mx ls := by
  obtain ⟨sv, rfl, h⟩ := h
  exact ⟨sv, rfl, Sl.of_own h⟩
theorem LkV.form {w : World} {v : Value} {now mx : Int} {ls : List Lk} (h : LkV w v now mx ls) : ∃ A c, v = .agg #[.int .i64 now, .int .i64 mx, .slice A ls.length c] ∧ LkV w (.agg #[.int .i64 now, .int .i64 mx, .slice A ls.length c]) now mx ls := by
  obtain ⟨sv, rfl, h⟩ := h
  obtain ⟨A, c, rfl, _, _⟩ := h.form
  exact ⟨A, c, rfl, _, rfl, h⟩
theorem LkV.sl {w : World} {sv : Value} {now mx : Int} {ls : List Lk} (h : LkV w (.agg #[.int .i64 now, .int .i64 mx, sv]) now mx ls) : Sl w 2 sv ls.length (ls.flatMap encL) := by
  obtain ⟨sv', he, h⟩ := h
  injection he with he
  injection he with he
  injection he with _ he
  injection he with _ he
  injection he with he _
  subst he
  exact h

/-- What do comes to: the error, the locks. -/
def doL (f : Lk → Int × Lk) (now mx : Int) (ls : List Lk) (i : Int) (fine : Bool) : Int × List Lk :=
  if (fine && mayL now mx ls) = true then (if h : 0 ≤ i ∧ i < ls.length then ((f (ls[i.toNat]'(by omega))).1, ls.set i.toNat (f (ls[i.toNat]'(by omega))).2) else (11, ls)) else (1, ls)

/-- What a call hands back: locks of its own, and an error. -/
def LkRes (now mx : Int) (r : Int × List Lk) (w : World) (e : Ending) (w' : World) : Prop :=
  ∃ v', e = .returned (.tuple #[v', .int .i64 r.1]) ∧ LkO w' w.heap.size v' now mx r.2 ∧ Below w.heap.size w w'

theorem flat_one (ls : List Lk) : ∀ u ∈ ls.flatMap encL, u.oneCell' = true := by
  intro u hu
  obtain ⟨x, _, hx⟩ := List.mem_flatMap.1 hu
  simp only [encL, List.mem_cons, List.not_mem_nil, or_false] at hx
  rcases hx with rfl | rfl <;> rfl

set_option maxHeartbeats 2000000 in
theorem do_any (gn : Nat) (bd : Array Value) (f : Lk → Int × Lk) (eg : ∀ args w, (callFunc gn args).run Try.prog w = .ok (.enter gn args) w) (hf : HandSpec gn bd f) (now mx i : Int) (fine : Bool) (sv : Value) (ls : List Lk) (w : World) (hv : Sl w 2 sv ls.length (ls.flatMap encL)) (hn : ls.length ≤ 1000) :
    Calls Try.prog 86 #[.agg #[.int .i64 now, .int .i64 mx, sv], .int .i64 i, .bool fine, .func (.func gn) bd #[]] w (LkRes now mx (doL f now mx ls i fine) w) := by
  have hb0 : Below w.heap.size w ((w.alloc (.cells #[.int .i64 now, .int .i64 mx, sv] 30)).alloc (.cells #[.int .i64 0, .int .i64 0, .slice none 0 0] 30)) := ((Below.refl _ w).alloc (Nat.le_refl _) _).alloc (by simp) _
  have hcl := clone_lock sv ls.length (ls.flatMap encL) _ (hv.below hb0) (flat_one ls) (by omega)
  have hmay := fun sv W h => lmay_any now mx sv ls W h
  obtain ⟨A, c, rfl, _, _⟩ := hv.form
  clear hv
  cases fine with
  | false =>
    rw [show doL f now mx ls i false = (1, ls) from by simp [doL]]
    clear hf eg hmay hn
    go_enter Try.func86, Try.ntmps86
    go_wp2_with fail
    refine hcl.mono ?_
    rintro e w1 ⟨v1, rfl, hr1, hb1⟩
    obtain ⟨A1, c1, rfl, _, _⟩ := (Sl.of_own hr1).form
    have hY1 := hb0.trans (hb1.mono (by simp; omega))
    have hz1 := hb1.size
    simp only [World.size_alloc] at hz1
    have kB0 : Blk w1 w.heap.size 30 #[.int .i64 now, .int .i64 mx, .slice A ls.length c] := ((Blk.new_ w _ _ _ rfl).alloc _).keep hb1
    have kB1 : Blk w1 (w.heap.size + 1) 30 #[.int .i64 0, .int .i64 0, .slice none 0 0] := (Blk.new_ _ _ _ _ (by simp)).keep hb1
    have p0 : w1.cell? ⟨w.heap.size, 0, none⟩ = some (.int .i64 now) := by rw [kB0.cell]; rfl
    have p1 : w1.cell? ⟨w.heap.size, 1, none⟩ = some (.int .i64 mx) := by rw [kB0.cell]; rfl
    have p2 : w1.cell? ⟨w.heap.size, 2, none⟩ = some (.slice A ls.length c) := by rw [kB0.cell]; rfl
    have pf0 : w1.frozen? ⟨w.heap.size, 0, none⟩ = false := kB0.free 0
    have pf1 : w1.frozen? ⟨w.heap.size, 1, none⟩ = false := kB0.free 1
    have pf2 : w1.frozen? ⟨w.heap.size, 2, none⟩ = false := kB0.free 2
    have q0 : w1.cell? ⟨w.heap.size + 1, 0, none⟩ = some (.int .i64 0) := by rw [kB1.cell]; rfl
    have q1 : w1.cell? ⟨w.heap.size + 1, 1, none⟩ = some (.int .i64 0) := by rw [kB1.cell]; rfl
    have q2 : w1.cell? ⟨w.heap.size + 1, 2, none⟩ = some (.slice none 0 0) := by rw [kB1.cell]; rfl
    have qf0 : w1.frozen? ⟨w.heap.size + 1, 0, none⟩ = false := kB1.free 0
    have qf1 : w1.frozen? ⟨w.heap.size + 1, 1, none⟩ = false := kB1.free 1
    have qf2 : w1.frozen? ⟨w.heap.size + 1, 2, none⟩ = false := kB1.free 2
    go_wp2
    refine bodyPost_ret (v := .tuple #[.agg #[.int .i64 now, .int .i64 mx, .slice A1 ls.length c1], .int .i64 1]) (by simp [results, Try.results86, go_sem, q0, q1, q2]) rfl ⟨_, rfl, ⟨_, rfl, ?_⟩, ?_⟩
    · exact ownsRow_mono (ownsRow_setCell_below (ownsRow_setCell_below (ownsRow_setCell_below (ownsRow_setCell_below hr1 (by first | (simp; done) | (simp; omega)) _) (by first | (simp; done) | (simp; omega)) _) (by first | (simp; done) | (simp; omega)) _) (by first | (simp; done) | (simp; omega)) _) (by simp; omega)
    · exact (((hY1.setCell (by simp) _).setCell (by simp) _).setCell (by simp) _).setCell (by simp) _
  | true =>
    cases hm : mayL now mx ls with
    | false =>
      rw [show doL f now mx ls i true = (1, ls) from by simp [doL, hm]]
      rw [hm] at hmay
      clear hf eg hn hm
      go_enter Try.func86, Try.ntmps86
      go_wp2_with fail
      refine hcl.mono ?_
      rintro e w1 ⟨v1, rfl, hr1, hb1⟩
      obtain ⟨A1, c1, rfl, _, _⟩ := (Sl.of_own hr1).form
      have hY1 := hb0.trans (hb1.mono (by simp; omega))
      have hz1 := hb1.size
      simp only [World.size_alloc] at hz1
      have kB0 : Blk w1 w.heap.size 30 #[.int .i64 now, .int .i64 mx, .slice A ls.length c] := ((Blk.new_ w _ _ _ rfl).alloc _).keep hb1
      have kB1 : Blk w1 (w.heap.size + 1) 30 #[.int .i64 0, .int .i64 0, .slice none 0 0] := (Blk.new_ _ _ _ _ (by simp)).keep hb1
      have p0 : w1.cell? ⟨w.heap.size, 0, none⟩ = some (.int .i64 now) := by rw [kB0.cell]; rfl
      have p1 : w1.cell? ⟨w.heap.size, 1, none⟩ = some (.int .i64 mx) := by rw [kB0.cell]; rfl
      have p2 : w1.cell? ⟨w.heap.size, 2, none⟩ = some (.slice A ls.length c) := by rw [kB0.cell]; rfl
      have pf0 : w1.frozen? ⟨w.heap.size, 0, none⟩ = false := kB0.free 0
      have pf1 : w1.frozen? ⟨w.heap.size, 1, none⟩ = false := kB0.free 1
      have pf2 : w1.frozen? ⟨w.heap.size, 2, none⟩ = false := kB0.free 2
      have q0 : w1.cell? ⟨w.heap.size + 1, 0, none⟩ = some (.int .i64 0) := by rw [kB1.cell]; rfl
      have q1 : w1.cell? ⟨w.heap.size + 1, 1, none⟩ = some (.int .i64 0) := by rw [kB1.cell]; rfl
      have q2 : w1.cell? ⟨w.heap.size + 1, 2, none⟩ = some (.slice none 0 0) := by rw [kB1.cell]; rfl
      have qf0 : w1.frozen? ⟨w.heap.size + 1, 0, none⟩ = false := kB1.free 0
      have qf1 : w1.frozen? ⟨w.heap.size + 1, 1, none⟩ = false := kB1.free 1
      have qf2 : w1.frozen? ⟨w.heap.size + 1, 2, none⟩ = false := kB1.free 2
      go_wp2_with fail
      have hs1 : Sl (w1.setCell ⟨w.heap.size, 2, none⟩ (.slice A1 ls.length c1)) 2 (.slice A1 ls.length c1) ls.length (ls.flatMap encL) := Sl.of_own (ownsRow_setCell_below hr1 (by first | (simp; done) | (simp; omega)) _)
      refine (hmay _ _ hs1).mono ?_
      rintro e w2 ⟨rfl, hb2⟩
      have hY2 := (hY1.setCell (p := ⟨w.heap.size, 2, none⟩) (Nat.le_refl _) (.slice A1 ls.length c1)).trans (hb2.mono (by simp [World.setCell]; omega))
      have kC0 : Blk w2 w.heap.size 30 #[.int .i64 now, .int .i64 mx, .slice A1 ls.length c1] := (kB0.set_ 2 _).keep hb2
      have kC1 : Blk w2 (w.heap.size + 1) 30 #[.int .i64 0, .int .i64 0, .slice none 0 0] := (kB1.far (by simp) _).keep hb2
      have hr2 : RowL w2 (w.heap.size + 2) (.slice A1 ls.length c1) ls := own_below (ownsRow_mono (ownsRow_setCell_below hr1 (by first | (simp; done) | (simp; omega)) _) (by simp)) hb2
      have hz2 := hb2.size
      simp only [World.size_setCell] at hz2
      clear kB0 kB1 hr1 hs1
      have s0 : w2.cell? ⟨w.heap.size, 0, none⟩ = some (.int .i64 now) := by rw [kC0.cell]; rfl
      have s1 : w2.cell? ⟨w.heap.size, 1, none⟩ = some (.int .i64 mx) := by rw [kC0.cell]; rfl
      have s2 : w2.cell? ⟨w.heap.size, 2, none⟩ = some (.slice A1 ls.length c1) := by rw [kC0.cell]; rfl
      have sf0 : w2.frozen? ⟨w.heap.size, 0, none⟩ = false := kC0.free 0
      have sf1 : w2.frozen? ⟨w.heap.size, 1, none⟩ = false := kC0.free 1
      have sf2 : w2.frozen? ⟨w.heap.size, 2, none⟩ = false := kC0.free 2
      have t0 : w2.cell? ⟨w.heap.size + 1, 0, none⟩ = some (.int .i64 0) := by rw [kC1.cell]; rfl
      have t1 : w2.cell? ⟨w.heap.size + 1, 1, none⟩ = some (.int .i64 0) := by rw [kC1.cell]; rfl
      have t2 : w2.cell? ⟨w.heap.size + 1, 2, none⟩ = some (.slice none 0 0) := by rw [kC1.cell]; rfl
      have tf0 : w2.frozen? ⟨w.heap.size + 1, 0, none⟩ = false := kC1.free 0
      have tf1 : w2.frozen? ⟨w.heap.size + 1, 1, none⟩ = false := kC1.free 1
      have tf2 : w2.frozen? ⟨w.heap.size + 1, 2, none⟩ = false := kC1.free 2
      go_wp2
      refine bodyPost_ret (v := .tuple #[.agg #[.int .i64 now, .int .i64 mx, .slice A1 ls.length c1], .int .i64 1]) (by simp [results, Try.results86, go_sem, t0, t1, t2]) rfl ⟨_, rfl, ⟨_, rfl, ?_⟩, ?_⟩
      · exact ownsRow_mono (ownsRow_setCell_below (ownsRow_setCell_below (ownsRow_setCell_below hr2 (by first | (simp; done) | (simp; omega)) _) (by first | (simp; done) | (simp; omega)) _) (by first | (simp; done) | (simp; omega)) _) (by omega)
      · exact ((hY2.setCell (by simp) _).setCell (by simp) _).setCell (by simp) _
    | true =>
      rw [hm] at hmay
      by_cases hi : 0 ≤ i ∧ i < (ls.length : Int)
      · obtain ⟨hi0, hi1⟩ := hi
        obtain ⟨k, rfl⟩ := Int.eq_ofNat_of_zero_le hi0
        have hk : k < ls.length := by omega
        have hdo : doL f now mx ls k true = ((f ls[k]).1, ls.set k (f ls[k]).2) := by
          unfold doL
          rw [hm, if_pos (by rfl), dif_pos ⟨hi0, hi1⟩]
          rfl
        rw [hdo]
        have hcall := fun W base g c h => hf W base g c k ls hk h
        clear hf hdo hn hm
        generalize f ls[k] = r at *
        have HK := Lib.hid hk
        clear hk
        go_enter Try.func86, Try.ntmps86
        go_wp2_with fail
        refine hcl.mono ?_
        rintro e w1 ⟨v1, rfl, hr1, hb1⟩
        obtain ⟨A1, c1, rfl, _, _⟩ := (Sl.of_own hr1).form
        have hY1 := hb0.trans (hb1.mono (by simp; omega))
        have hz1 := hb1.size
        simp only [World.size_alloc] at hz1
        have kB0 : Blk w1 w.heap.size 30 #[.int .i64 now, .int .i64 mx, .slice A ls.length c] := ((Blk.new_ w _ _ _ rfl).alloc _).keep hb1
        have kB1 : Blk w1 (w.heap.size + 1) 30 #[.int .i64 0, .int .i64 0, .slice none 0 0] := (Blk.new_ _ _ _ _ (by simp)).keep hb1
        have p0 : w1.cell? ⟨w.heap.size, 0, none⟩ = some (.int .i64 now) := by rw [kB0.cell]; rfl
        have p1 : w1.cell? ⟨w.heap.size, 1, none⟩ = some (.int .i64 mx) := by rw [kB0.cell]; rfl
        have p2 : w1.cell? ⟨w.heap.size, 2, none⟩ = some (.slice A ls.length c) := by rw [kB0.cell]; rfl
        have pf0 : w1.frozen? ⟨w.heap.size, 0, none⟩ = false := kB0.free 0
        have pf1 : w1.frozen? ⟨w.heap.size, 1, none⟩ = false := kB0.free 1
        have pf2 : w1.frozen? ⟨w.heap.size, 2, none⟩ = false := kB0.free 2
        have q0 : w1.cell? ⟨w.heap.size + 1, 0, none⟩ = some (.int .i64 0) := by rw [kB1.cell]; rfl
        have q1 : w1.cell? ⟨w.heap.size + 1, 1, none⟩ = some (.int .i64 0) := by rw [kB1.cell]; rfl
        have q2 : w1.cell? ⟨w.heap.size + 1, 2, none⟩ = some (.slice none 0 0) := by rw [kB1.cell]; rfl
        have qf0 : w1.frozen? ⟨w.heap.size + 1, 0, none⟩ = false := kB1.free 0
        have qf1 : w1.frozen? ⟨w.heap.size + 1, 1, none⟩ = false := kB1.free 1
        have qf2 : w1.frozen? ⟨w.heap.size + 1, 2, none⟩ = false := kB1.free 2
        go_wp2_with fail
        have hs1 : Sl (w1.setCell ⟨w.heap.size, 2, none⟩ (.slice A1 ls.length c1)) 2 (.slice A1 ls.length c1) ls.length (ls.flatMap encL) := Sl.of_own (ownsRow_setCell_below hr1 (by first | (simp; done) | (simp; omega)) _)
        refine (hmay _ _ hs1).mono ?_
        rintro e w2 ⟨rfl, hb2⟩
        have hY2 := (hY1.setCell (p := ⟨w.heap.size, 2, none⟩) (Nat.le_refl _) (.slice A1 ls.length c1)).trans (hb2.mono (by simp [World.setCell]; omega))
        have kC0 : Blk w2 w.heap.size 30 #[.int .i64 now, .int .i64 mx, .slice A1 ls.length c1] := (kB0.set_ 2 _).keep hb2
        have kC1 : Blk w2 (w.heap.size + 1) 30 #[.int .i64 0, .int .i64 0, .slice none 0 0] := (kB1.far (by simp) _).keep hb2
        have hr2 : RowL w2 (w.heap.size + 2) (.slice A1 ls.length c1) ls := own_below (ownsRow_mono (ownsRow_setCell_below hr1 (by first | (simp; done) | (simp; omega)) _) (by simp)) hb2
        have hz2 := hb2.size
        simp only [World.size_setCell] at hz2
        clear kB0 kB1 hr1 hs1
        have s0 : w2.cell? ⟨w.heap.size, 0, none⟩ = some (.int .i64 now) := by rw [kC0.cell]; rfl
        have s1 : w2.cell? ⟨w.heap.size, 1, none⟩ = some (.int .i64 mx) := by rw [kC0.cell]; rfl
        have s2 : w2.cell? ⟨w.heap.size, 2, none⟩ = some (.slice A1 ls.length c1) := by rw [kC0.cell]; rfl
        have sf0 : w2.frozen? ⟨w.heap.size, 0, none⟩ = false := kC0.free 0
        have sf1 : w2.frozen? ⟨w.heap.size, 1, none⟩ = false := kC0.free 1
        have sf2 : w2.frozen? ⟨w.heap.size, 2, none⟩ = false := kC0.free 2
        have t0 : w2.cell? ⟨w.heap.size + 1, 0, none⟩ = some (.int .i64 0) := by rw [kC1.cell]; rfl
        have t1 : w2.cell? ⟨w.heap.size + 1, 1, none⟩ = some (.int .i64 0) := by rw [kC1.cell]; rfl
        have t2 : w2.cell? ⟨w.heap.size + 1, 2, none⟩ = some (.slice none 0 0) := by rw [kC1.cell]; rfl
        have tf0 : w2.frozen? ⟨w.heap.size + 1, 0, none⟩ = false := kC1.free 0
        have tf1 : w2.frozen? ⟨w.heap.size + 1, 1, none⟩ = false := kC1.free 1
        have tf2 : w2.frozen? ⟨w.heap.size + 1, 2, none⟩ = false := kC1.free 2
        obtain ⟨g, cap, cur, he, hg, hgb, _⟩ := own_form hr2 (Nat.lt_of_le_of_lt (Nat.zero_le _) HK.out)
        injection he with he _ he2
        subst he he2
        have hne0 : ¬ g = w.heap.size := by omega
        have hne1 : ¬ g = w.heap.size + 1 := by omega
        have l0 := kC0.lt
        have l1 := kC1.lt
        have BW := (Below.refl w2.heap.size w2).drew
        have hkk := hcall _ _ _ _ (hr2.keep BW)
        clear hcall
        go_wp2_with fail
        go_region_held3 (fun w' => w'.cell? ⟨w.heap.size, 0, none⟩ = some (.int .i64 now) ∧ w'.cell? ⟨w.heap.size, 1, none⟩ = some (.int .i64 mx) ∧ w'.cell? ⟨w.heap.size, 2, none⟩ = some (.slice (some ⟨g, 0, none⟩) ls.length c1))
          (first | exact ⟨s0, s1, s2⟩ | exact ⟨(hgr.cell_far _ l0 (by simpa using Ne.symm hne0)).trans s0, (hgr.cell_far _ l0 (by simpa using Ne.symm hne0)).trans s1, (hgr.cell_far _ l0 (by simpa using Ne.symm hne0)).trans s2⟩ | go_keep)
          (first | (go_at_fn gn; refine hkk.mono ?_; rintro e w' ⟨rfl, hrow, hgr⟩; have u0 := (hgr.cell_far (w := w2.drew) ⟨w.heap.size + 1, 0, none⟩ l1 (by simpa using Ne.symm hne1)).trans t0; have u1 := (hgr.cell_far (w := w2.drew) ⟨w.heap.size + 1, 1, none⟩ l1 (by simpa using Ne.symm hne1)).trans t1; have u2 := (hgr.cell_far (w := w2.drew) ⟨w.heap.size + 1, 2, none⟩ l1 (by simpa using Ne.symm hne1)).trans t2; have uf0 := (hgr.frozen_far (w := w2.drew) ⟨w.heap.size + 1, 0, none⟩ l1 (by simpa using Ne.symm hne1)).trans tf0; have uf1 := (hgr.frozen_far (w := w2.drew) ⟨w.heap.size + 1, 1, none⟩ l1 (by simpa using Ne.symm hne1)).trans tf1; have uf2 := (hgr.frozen_far (w := w2.drew) ⟨w.heap.size + 1, 2, none⟩ l1 (by simpa using Ne.symm hne1)).trans tf2))
        go_wp2
        refine bodyPost_ret (v := .tuple #[.agg #[.int .i64 now, .int .i64 mx, .slice (some ⟨g, 0, none⟩) (ls.set k r.2).length c1], .int .i64 r.1]) (by simp [results, Try.results86, go_sem, u0, u1, u2]) rfl ⟨_, rfl, ⟨_, rfl, ?_⟩, ?_⟩
        · rw [List.length_set]
          unfold RowL at hrow ⊢
          rw [List.length_set] at hrow ⊢
          exact ownsRow_mono (ownsRow_setCell_below (ownsRow_setCell_below (ownsRow_setCell_below hrow (by first | (simp; done) | (simp; omega)) _) (by first | (simp; done) | (simp; omega)) _) (by first | (simp; done) | (simp; omega)) _) (by omega)
        · exact ((((hY2.trans (BW.mono hY2.size)).grown hgr (by simp; omega) (by simp; omega)).setCell (by simp) _).setCell (by simp) _).setCell (by simp) _
      · rw [show doL f now mx ls i true = (11, ls) from by
          unfold doL
          rw [hm, if_pos (by rfl), dif_neg hi]]
        clear hf eg hn hm
        by_cases hi0 : i < 0
        · clear hi
          go_enter Try.func86, Try.ntmps86
          go_wp2_with fail
          refine hcl.mono ?_
          rintro e w1 ⟨v1, rfl, hr1, hb1⟩
          obtain ⟨A1, c1, rfl, _, _⟩ := (Sl.of_own hr1).form
          have hY1 := hb0.trans (hb1.mono (by simp; omega))
          have hz1 := hb1.size
          simp only [World.size_alloc] at hz1
          have kB0 : Blk w1 w.heap.size 30 #[.int .i64 now, .int .i64 mx, .slice A ls.length c] := ((Blk.new_ w _ _ _ rfl).alloc _).keep hb1
          have kB1 : Blk w1 (w.heap.size + 1) 30 #[.int .i64 0, .int .i64 0, .slice none 0 0] := (Blk.new_ _ _ _ _ (by simp)).keep hb1
          have p0 : w1.cell? ⟨w.heap.size, 0, none⟩ = some (.int .i64 now) := by rw [kB0.cell]; rfl
          have p1 : w1.cell? ⟨w.heap.size, 1, none⟩ = some (.int .i64 mx) := by rw [kB0.cell]; rfl
          have p2 : w1.cell? ⟨w.heap.size, 2, none⟩ = some (.slice A ls.length c) := by rw [kB0.cell]; rfl
          have pf0 : w1.frozen? ⟨w.heap.size, 0, none⟩ = false := kB0.free 0
          have pf1 : w1.frozen? ⟨w.heap.size, 1, none⟩ = false := kB0.free 1
          have pf2 : w1.frozen? ⟨w.heap.size, 2, none⟩ = false := kB0.free 2
          have q0 : w1.cell? ⟨w.heap.size + 1, 0, none⟩ = some (.int .i64 0) := by rw [kB1.cell]; rfl
          have q1 : w1.cell? ⟨w.heap.size + 1, 1, none⟩ = some (.int .i64 0) := by rw [kB1.cell]; rfl
          have q2 : w1.cell? ⟨w.heap.size + 1, 2, none⟩ = some (.slice none 0 0) := by rw [kB1.cell]; rfl
          have qf0 : w1.frozen? ⟨w.heap.size + 1, 0, none⟩ = false := kB1.free 0
          have qf1 : w1.frozen? ⟨w.heap.size + 1, 1, none⟩ = false := kB1.free 1
          have qf2 : w1.frozen? ⟨w.heap.size + 1, 2, none⟩ = false := kB1.free 2
          go_wp2_with fail
          have hs1 : Sl (w1.setCell ⟨w.heap.size, 2, none⟩ (.slice A1 ls.length c1)) 2 (.slice A1 ls.length c1) ls.length (ls.flatMap encL) := Sl.of_own (ownsRow_setCell_below hr1 (by first | (simp; done) | (simp; omega)) _)
          refine (hmay _ _ hs1).mono ?_
          rintro e w2 ⟨rfl, hb2⟩
          have hY2 := (hY1.setCell (p := ⟨w.heap.size, 2, none⟩) (Nat.le_refl _) (.slice A1 ls.length c1)).trans (hb2.mono (by simp [World.setCell]; omega))
          have kC0 : Blk w2 w.heap.size 30 #[.int .i64 now, .int .i64 mx, .slice A1 ls.length c1] := (kB0.set_ 2 _).keep hb2
          have kC1 : Blk w2 (w.heap.size + 1) 30 #[.int .i64 0, .int .i64 0, .slice none 0 0] := (kB1.far (by simp) _).keep hb2
          have hr2 : RowL w2 (w.heap.size + 2) (.slice A1 ls.length c1) ls := own_below (ownsRow_mono (ownsRow_setCell_below hr1 (by first | (simp; done) | (simp; omega)) _) (by simp)) hb2
          have hz2 := hb2.size
          simp only [World.size_setCell] at hz2
          clear kB0 kB1 hr1 hs1
          have s0 : w2.cell? ⟨w.heap.size, 0, none⟩ = some (.int .i64 now) := by rw [kC0.cell]; rfl
          have s1 : w2.cell? ⟨w.heap.size, 1, none⟩ = some (.int .i64 mx) := by rw [kC0.cell]; rfl
          have s2 : w2.cell? ⟨w.heap.size, 2, none⟩ = some (.slice A1 ls.length c1) := by rw [kC0.cell]; rfl
          have sf0 : w2.frozen? ⟨w.heap.size, 0, none⟩ = false := kC0.free 0
          have sf1 : w2.frozen? ⟨w.heap.size, 1, none⟩ = false := kC0.free 1
          have sf2 : w2.frozen? ⟨w.heap.size, 2, none⟩ = false := kC0.free 2
          have t0 : w2.cell? ⟨w.heap.size + 1, 0, none⟩ = some (.int .i64 0) := by rw [kC1.cell]; rfl
          have t1 : w2.cell? ⟨w.heap.size + 1, 1, none⟩ = some (.int .i64 0) := by rw [kC1.cell]; rfl
          have t2 : w2.cell? ⟨w.heap.size + 1, 2, none⟩ = some (.slice none 0 0) := by rw [kC1.cell]; rfl
          have tf0 : w2.frozen? ⟨w.heap.size + 1, 0, none⟩ = false := kC1.free 0
          have tf1 : w2.frozen? ⟨w.heap.size + 1, 1, none⟩ = false := kC1.free 1
          have tf2 : w2.frozen? ⟨w.heap.size + 1, 2, none⟩ = false := kC1.free 2
          go_wp2
          refine bodyPost_ret (v := .tuple #[.agg #[.int .i64 now, .int .i64 mx, .slice A1 ls.length c1], .int .i64 11]) (by simp [results, Try.results86, go_sem, t0, t1, t2]) rfl ⟨_, rfl, ⟨_, rfl, ?_⟩, ?_⟩
          · exact ownsRow_mono (ownsRow_setCell_below (ownsRow_setCell_below (ownsRow_setCell_below hr2 (by first | (simp; done) | (simp; omega)) _) (by first | (simp; done) | (simp; omega)) _) (by first | (simp; done) | (simp; omega)) _) (by omega)
          · exact ((hY2.setCell (by simp) _).setCell (by simp) _).setCell (by simp) _
        · have hi1 : (ls.length : Int) ≤ i := by omega
          clear hi
          go_enter Try.func86, Try.ntmps86
          go_wp2_with fail
          refine hcl.mono ?_
          rintro e w1 ⟨v1, rfl, hr1, hb1⟩
          obtain ⟨A1, c1, rfl, _, _⟩ := (Sl.of_own hr1).form
          have hY1 := hb0.trans (hb1.mono (by simp; omega))
          have hz1 := hb1.size
          simp only [World.size_alloc] at hz1
          have kB0 : Blk w1 w.heap.size 30 #[.int .i64 now, .int .i64 mx, .slice A ls.length c] := ((Blk.new_ w _ _ _ rfl).alloc _).keep hb1
          have kB1 : Blk w1 (w.heap.size + 1) 30 #[.int .i64 0, .int .i64 0, .slice none 0 0] := (Blk.new_ _ _ _ _ (by simp)).keep hb1
          have p0 : w1.cell? ⟨w.heap.size, 0, none⟩ = some (.int .i64 now) := by rw [kB0.cell]; rfl
          have p1 : w1.cell? ⟨w.heap.size, 1, none⟩ = some (.int .i64 mx) := by rw [kB0.cell]; rfl
          have p2 : w1.cell? ⟨w.heap.size, 2, none⟩ = some (.slice A ls.length c) := by rw [kB0.cell]; rfl
          have pf0 : w1.frozen? ⟨w.heap.size, 0, none⟩ = false := kB0.free 0
          have pf1 : w1.frozen? ⟨w.heap.size, 1, none⟩ = false := kB0.free 1
          have pf2 : w1.frozen? ⟨w.heap.size, 2, none⟩ = false := kB0.free 2
          have q0 : w1.cell? ⟨w.heap.size + 1, 0, none⟩ = some (.int .i64 0) := by rw [kB1.cell]; rfl
          have q1 : w1.cell? ⟨w.heap.size + 1, 1, none⟩ = some (.int .i64 0) := by rw [kB1.cell]; rfl
          have q2 : w1.cell? ⟨w.heap.size + 1, 2, none⟩ = some (.slice none 0 0) := by rw [kB1.cell]; rfl
          have qf0 : w1.frozen? ⟨w.heap.size + 1, 0, none⟩ = false := kB1.free 0
          have qf1 : w1.frozen? ⟨w.heap.size + 1, 1, none⟩ = false := kB1.free 1
          have qf2 : w1.frozen? ⟨w.heap.size + 1, 2, none⟩ = false := kB1.free 2
          go_wp2_with fail
          have hs1 : Sl (w1.setCell ⟨w.heap.size, 2, none⟩ (.slice A1 ls.length c1)) 2 (.slice A1 ls.length c1) ls.length (ls.flatMap encL) := Sl.of_own (ownsRow_setCell_below hr1 (by first | (simp; done) | (simp; omega)) _)
          refine (hmay _ _ hs1).mono ?_
          rintro e w2 ⟨rfl, hb2⟩
          have hY2 := (hY1.setCell (p := ⟨w.heap.size, 2, none⟩) (Nat.le_refl _) (.slice A1 ls.length c1)).trans (hb2.mono (by simp [World.setCell]; omega))
          have kC0 : Blk w2 w.heap.size 30 #[.int .i64 now, .int .i64 mx, .slice A1 ls.length c1] := (kB0.set_ 2 _).keep hb2
          have kC1 : Blk w2 (w.heap.size + 1) 30 #[.int .i64 0, .int .i64 0, .slice none 0 0] := (kB1.far (by simp) _).keep hb2
          have hr2 : RowL w2 (w.heap.size + 2) (.slice A1 ls.length c1) ls := own_below (ownsRow_mono (ownsRow_setCell_below hr1 (by first | (simp; done) | (simp; omega)) _) (by simp)) hb2
          have hz2 := hb2.size
          simp only [World.size_setCell] at hz2
          clear kB0 kB1 hr1 hs1
          have s0 : w2.cell? ⟨w.heap.size, 0, none⟩ = some (.int .i64 now) := by rw [kC0.cell]; rfl
          have s1 : w2.cell? ⟨w.heap.size, 1, none⟩ = some (.int .i64 mx) := by rw [kC0.cell]; rfl
          have s2 : w2.cell? ⟨w.heap.size, 2, none⟩ = some (.slice A1 ls.length c1) := by rw [kC0.cell]; rfl
          have sf0 : w2.frozen? ⟨w.heap.size, 0, none⟩ = false := kC0.free 0
          have sf1 : w2.frozen? ⟨w.heap.size, 1, none⟩ = false := kC0.free 1
          have sf2 : w2.frozen? ⟨w.heap.size, 2, none⟩ = false := kC0.free 2
          have t0 : w2.cell? ⟨w.heap.size + 1, 0, none⟩ = some (.int .i64 0) := by rw [kC1.cell]; rfl
          have t1 : w2.cell? ⟨w.heap.size + 1, 1, none⟩ = some (.int .i64 0) := by rw [kC1.cell]; rfl
          have t2 : w2.cell? ⟨w.heap.size + 1, 2, none⟩ = some (.slice none 0 0) := by rw [kC1.cell]; rfl
          have tf0 : w2.frozen? ⟨w.heap.size + 1, 0, none⟩ = false := kC1.free 0
          have tf1 : w2.frozen? ⟨w.heap.size + 1, 1, none⟩ = false := kC1.free 1
          have tf2 : w2.frozen? ⟨w.heap.size + 1, 2, none⟩ = false := kC1.free 2
          go_wp2
          refine bodyPost_ret (v := .tuple #[.agg #[.int .i64 now, .int .i64 mx, .slice A1 ls.length c1], .int .i64 11]) (by simp [results, Try.results86, go_sem, t0, t1, t2]) rfl ⟨_, rfl, ⟨_, rfl, ?_⟩, ?_⟩
          · exact ownsRow_mono (ownsRow_setCell_below (ownsRow_setCell_below (ownsRow_setCell_below hr2 (by first | (simp; done) | (simp; omega)) _) (by first | (simp; done) | (simp; omega)) _) (by first | (simp; done) | (simp; omega)) _) (by omega)
          · exact ((hY2.setCell (by simp) _).setCell (by simp) _).setCell (by simp) _

end Go.Proofs.Ytngimbfojccikaa
