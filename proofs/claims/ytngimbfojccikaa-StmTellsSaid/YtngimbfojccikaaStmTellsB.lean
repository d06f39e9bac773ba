/- Several texts in one: LkHand, LkGive. -/
import Derived.Test.YtngimbfojccikaaStmTellsA
import Derived.RegionTactic
import Derived.Deep.RegionHeld3
import Derived.Deep.DrawnRows
namespace Go.Proofs.Ytngimbfojccikaa
set_option linter.unusedSimpArgs false
open Go Go.RowKit
attribute [local go_sem ↓] Go.wp_at_zero Go.wp_at_succ

/-- Is a lock theirs, or nobody's? -/
def freeH (who : Int) (x : Lk) : Bool := x.o == -1 || x.o == who

set_option maxHeartbeats 400000 in
theorem hfree_any (who ver : Int) (x : Lk) (w : World) :
    Calls Try.prog 91 #[.agg #[.int .i64 who, .int .i64 ver], .agg (encL x).toArray] w fun e w' => e = .returned (.bool (freeH who x)) ∧ Below w.heap.size w w' := by
  simp only [encL]
  have hb0 := ((Below.refl _ w).alloc (Nat.le_refl _) (.cells #[.int .i64 who, .int .i64 ver] 114)).alloc (by simp) (.cells #[.int .i64 x.v, .int .i64 x.o] 43)
  cases h1 : (x.o == -1) with
  | true =>
    rw [show freeH who x = true from by simp [freeH, h1]]
    go_enter Try.func91, Try.ntmps91
    go_wp2
    go_ret
    exact ⟨rfl, hb0⟩
  | false =>
    rw [show freeH who x = (x.o == who) from by simp [freeH, h1]]
    go_enter Try.func91, Try.ntmps91
    go_wp2
    go_ret
    exact ⟨rfl, hb0⟩

set_option maxHeartbeats 1000000 in
theorem htake_yes (who ver : Int) (x : Lk) (g o : Nat) (w : World) (h0 : w.cell? ⟨g, o, none⟩ = some (.int .i64 x.v)) (h1 : w.cell? ⟨g, o + 1, none⟩ = some (.int .i64 x.o)) (hf : w.frozen? ⟨g, o + 1, none⟩ = false) (hg : g < w.heap.size)
    (hq : freeH who x = true) :
    Calls Try.prog 88 #[.agg #[.int .i64 who, .int .i64 ver], .pointer (some ⟨g, o, none⟩)] w fun e w' => ∃ w1, e = .returned (.int .i64 0) ∧ Below w.heap.size w w1 ∧ w' = w1.setCell ⟨g, o + 1, none⟩ (.int .i64 who) := by
  have hfr := fun w => hfree_any who ver x w
  rw [hq] at hfr
  simp only [encL] at hfr
  clear hq
  have hb0 := (Below.refl _ w).alloc (Nat.le_refl _) (.cells #[.int .i64 who, .int .i64 ver] 114)
  go_enter Try.func88, Try.ntmps88
  go_wp2_with fail
  have hA0 : Blk (w.alloc (.cells #[.int .i64 who, .int .i64 ver] 114)) w.heap.size 114 #[.int .i64 who, .int .i64 ver] := Blk.new_ w _ _ _ rfl
  obtain ⟨w1, hw1⟩ : ∃ x, w.alloc (.cells #[.int .i64 who, .int .i64 ver] 114) = x := ⟨_, rfl⟩
  rw [hw1] at hA0 hb0 ⊢
  have k0 : w1.cell? ⟨w.heap.size, 0, none⟩ = some (.int .i64 who) := by rw [hA0.cell]; rfl
  have k1 : w1.cell? ⟨w.heap.size, 1, none⟩ = some (.int .i64 ver) := by rw [hA0.cell]; rfl
  have k2 : w1.cell? ⟨g, o, none⟩ = some (.int .i64 x.v) := (hb0.cell (p := ⟨g, o, none⟩) hg).trans h0
  have k3 : w1.cell? ⟨g, o + 1, none⟩ = some (.int .i64 x.o) := (hb0.cell (p := ⟨g, o + 1, none⟩) hg).trans h1
  have l1 := hA0.lt
  have l2 : g < w1.heap.size := Nat.lt_of_lt_of_le hg hb0.size
  have BW := (Below.refl w1.heap.size w1).drew
  go_region_held3 (fun w' => w'.cell? ⟨w.heap.size, 0, none⟩ = some (.int .i64 who) ∧ w'.cell? ⟨w.heap.size, 1, none⟩ = some (.int .i64 ver) ∧ w'.cell? ⟨g, o, none⟩ = some (.int .i64 x.v) ∧ w'.cell? ⟨g, o + 1, none⟩ = some (.int .i64 x.o) ∧ Below w1.heap.size w1 w')
    (first | exact ⟨(BW.cell (p := ⟨w.heap.size, 0, none⟩) l1).trans k0, (BW.cell (p := ⟨w.heap.size, 1, none⟩) l1).trans k1, (BW.cell (p := ⟨g, o, none⟩) l2).trans k2, (BW.cell (p := ⟨g, o + 1, none⟩) l2).trans k3, BW⟩ | exact ⟨(hX.cell (p := ⟨w.heap.size, 0, none⟩) l1).trans k0, (hX.cell (p := ⟨w.heap.size, 1, none⟩) l1).trans k1, (hX.cell (p := ⟨g, o, none⟩) l2).trans k2, (hX.cell (p := ⟨g, o + 1, none⟩) l2).trans k3, hX⟩)
    (first | (go_at_call 91; refine (hfr _).mono ?_; rintro e w' ⟨rfl, hb'⟩; have hX := BW.trans (hb'.mono BW.size)))
  obtain ⟨w2, hw2⟩ : ∃ x, w' = x := ⟨_, rfl⟩
  rw [hw2] at hX ⊢
  have hY := hb0.trans (hX.mono hb0.size)
  have m0 : w2.cell? ⟨w.heap.size, 0, none⟩ = some (.int .i64 who) := (hX.cell (p := ⟨w.heap.size, 0, none⟩) l1).trans k0
  have hff : w2.frozen? ⟨g, o + 1, none⟩ = w.frozen? ⟨g, o + 1, none⟩ := hY.frozen (p := ⟨g, o + 1, none⟩) hg
  have hcc : w2.cell? ⟨g, o + 1, none⟩ = some (.int .i64 x.o) := (hY.cell (p := ⟨g, o + 1, none⟩) hg).trans h1
  go_wp2
  go_ret
  exact ⟨w2, rfl, hY, rfl⟩

set_option maxHeartbeats 1000000 in
theorem htake_no (who ver : Int) (x : Lk) (g o : Nat) (w : World) (h0 : w.cell? ⟨g, o, none⟩ = some (.int .i64 x.v)) (h1 : w.cell? ⟨g, o + 1, none⟩ = some (.int .i64 x.o)) (hg : g < w.heap.size)
    (hq : freeH who x = false) :
    Calls Try.prog 88 #[.agg #[.int .i64 who, .int .i64 ver], .pointer (some ⟨g, o, none⟩)] w fun e w' => e = .returned (.int .i64 10) ∧ Below w.heap.size w w' := by
  have hfr := fun w => hfree_any who ver x w
  rw [hq] at hfr
  simp only [encL] at hfr
  clear hq
  have hf : True := trivial
  have hb0 := (Below.refl _ w).alloc (Nat.le_refl _) (.cells #[.int .i64 who, .int .i64 ver] 114)
  go_enter Try.func88, Try.ntmps88
  go_wp2_with fail
  have hA0 : Blk (w.alloc (.cells #[.int .i64 who, .int .i64 ver] 114)) w.heap.size 114 #[.int .i64 who, .int .i64 ver] := Blk.new_ w _ _ _ rfl
  obtain ⟨w1, hw1⟩ : ∃ x, w.alloc (.cells #[.int .i64 who, .int .i64 ver] 114) = x := ⟨_, rfl⟩
  rw [hw1] at hA0 hb0 ⊢
  have k0 : w1.cell? ⟨w.heap.size, 0, none⟩ = some (.int .i64 who) := by rw [hA0.cell]; rfl
  have k1 : w1.cell? ⟨w.heap.size, 1, none⟩ = some (.int .i64 ver) := by rw [hA0.cell]; rfl
  have k2 : w1.cell? ⟨g, o, none⟩ = some (.int .i64 x.v) := (hb0.cell (p := ⟨g, o, none⟩) hg).trans h0
  have k3 : w1.cell? ⟨g, o + 1, none⟩ = some (.int .i64 x.o) := (hb0.cell (p := ⟨g, o + 1, none⟩) hg).trans h1
  have l1 := hA0.lt
  have l2 : g < w1.heap.size := Nat.lt_of_lt_of_le hg hb0.size
  have BW := (Below.refl w1.heap.size w1).drew
  go_region_held3 (fun w' => w'.cell? ⟨w.heap.size, 0, none⟩ = some (.int .i64 who) ∧ w'.cell? ⟨w.heap.size, 1, none⟩ = some (.int .i64 ver) ∧ w'.cell? ⟨g, o, none⟩ = some (.int .i64 x.v) ∧ w'.cell? ⟨g, o + 1, none⟩ = some (.int .i64 x.o) ∧ Below w1.heap.size w1 w')
    (first | exact ⟨(BW.cell (p := ⟨w.heap.size, 0, none⟩) l1).trans k0, (BW.cell (p := ⟨w.heap.size, 1, none⟩) l1).trans k1, (BW.cell (p := ⟨g, o, none⟩) l2).trans k2, (BW.cell (p := ⟨g, o + 1, none⟩) l2).trans k3, BW⟩ | exact ⟨(hX.cell (p := ⟨w.heap.size, 0, none⟩) l1).trans k0, (hX.cell (p := ⟨w.heap.size, 1, none⟩) l1).trans k1, (hX.cell (p := ⟨g, o, none⟩) l2).trans k2, (hX.cell (p := ⟨g, o + 1, none⟩) l2).trans k3, hX⟩)
    (first | (go_at_call 91; refine (hfr _).mono ?_; rintro e w' ⟨rfl, hb'⟩; have hX := BW.trans (hb'.mono BW.size)))
  obtain ⟨w2, hw2⟩ : ∃ x, w' = x := ⟨_, rfl⟩
  rw [hw2] at hX ⊢
  have hY := hb0.trans (hX.mono hb0.size)
  have m0 : w2.cell? ⟨w.heap.size, 0, none⟩ = some (.int .i64 who) := (hX.cell (p := ⟨w.heap.size, 0, none⟩) l1).trans k0
  have hff : w2.frozen? ⟨g, o + 1, none⟩ = w.frozen? ⟨g, o + 1, none⟩ := hY.frozen (p := ⟨g, o + 1, none⟩) hg
  have hcc : w2.cell? ⟨g, o + 1, none⟩ = some (.int .i64 x.o) := (hY.cell (p := ⟨g, o + 1, none⟩) hg).trans h1
  go_wp2
  go_ret
  exact ⟨rfl, hY⟩
end Go.Proofs.Ytngimbfojccikaa
namespace Go.Proofs.Ytngimbfojccikaa
set_option linter.unusedSimpArgs false
open Go Go.RowKit
set_option linter.unusedVariables false
attribute [local go_sem ↓] Go.wp_at_zero Go.wp_at_succ

set_option maxHeartbeats 1000000 in
theorem hgive_none (who ver : Int) (x : Lk) (g o : Nat) (w : World) (h0 : w.cell? ⟨g, o, none⟩ = some (.int .i64 x.v)) (h1 : w.cell? ⟨g, o + 1, none⟩ = some (.int .i64 x.o)) (hg : g < w.heap.size)
    (hq : (x.o != who) = true) :
    Calls Try.prog 92 #[.agg #[.int .i64 who, .int .i64 ver], .pointer (some ⟨g, o, none⟩)] w fun e w' => e = .returned (.int .i64 11) ∧ Below w.heap.size w w' := by
  have hb0 := (Below.refl _ w).alloc (Nat.le_refl _) (.cells #[.int .i64 who, .int .i64 ver] 114)
  go_enter Try.func92, Try.ntmps92
  go_wp2_with fail
  go_quiet (fail)
  go_wp2
  go_ret
  exact ⟨rfl, below_drewN hb0 _⟩

set_option maxHeartbeats 1000000 in
theorem hgive_arg (who ver : Int) (x : Lk) (g o : Nat) (w : World) (h0 : w.cell? ⟨g, o, none⟩ = some (.int .i64 x.v)) (h1 : w.cell? ⟨g, o + 1, none⟩ = some (.int .i64 x.o)) (hg : g < w.heap.size)
    (hq : (x.o != who) = false) (h2 : (ver != -1) = true) (h3 : decide (ver ≤ x.v) = true) :
    Calls Try.prog 92 #[.agg #[.int .i64 who, .int .i64 ver], .pointer (some ⟨g, o, none⟩)] w fun e w' => e = .returned (.int .i64 1) ∧ Below w.heap.size w w' := by
  have hb0 := (Below.refl _ w).alloc (Nat.le_refl _) (.cells #[.int .i64 who, .int .i64 ver] 114)
  go_enter Try.func92, Try.ntmps92
  go_wp2_with fail
  go_quiet (fail)
  go_wp2_with fail
  go_quiet (fail)
  go_wp2
  go_ret
  exact ⟨rfl, below_drewN (below_drewN hb0 _) _⟩

/-- Behind a call that hands back r: something new, and one store of a whole lock. -/
def GaveAt (r v o : Int) (g off : Nat) (w : World) (e : Ending) (w' : World) : Prop :=
  ∃ w1, e = .returned (.int .i64 r) ∧ Below w.heap.size w w1 ∧ w' = (w1.setCell ⟨g, off, none⟩ (.int .i64 v)).setCell ⟨g, off + 1, none⟩ (.int .i64 o)

set_option maxHeartbeats 1000000 in
theorem hgive_yes (who ver : Int) (x : Lk) (g o : Nat) (w : World) (h0 : w.cell? ⟨g, o, none⟩ = some (.int .i64 x.v)) (h1 : w.cell? ⟨g, o + 1, none⟩ = some (.int .i64 x.o)) (hf0 : w.frozen? ⟨g, o, none⟩ = false) (hf : w.frozen? ⟨g, o + 1, none⟩ = false) (hg : g < w.heap.size)
    (hq : (x.o != who) = false) (b2 : Bool) (h2 : (ver != -1) = b2) (h3 : b2 = true → decide (ver ≤ x.v) = false) :
    Calls Try.prog 92 #[.agg #[.int .i64 who, .int .i64 ver], .pointer (some ⟨g, o, none⟩)] w (GaveAt 0 (max x.v ver) (-1) g o w) := by
  have hb0 := (Below.refl _ w).alloc (Nat.le_refl _) (.cells #[.int .i64 who, .int .i64 ver] 114)
  cases b2 with
  | true =>
    have h3 := h3 rfl
    go_enter Try.func92, Try.ntmps92
    go_wp2_with fail
    go_quiet (fail)
    go_wp2_with fail
    go_quiet (fail)
    go_wp2_with fail
    go_region
    all_goals go_wp2
    all_goals go_ret
    all_goals first
      | exact ⟨_, rfl, (below_drewN hb0 _), (by rw [show max x.v ver = ver from by omega])⟩
      | exact ⟨_, rfl, (below_drewN hb0 _), (by rw [show max x.v ver = x.v from by omega])⟩
  | false =>
    go_enter Try.func92, Try.ntmps92
    go_wp2_with fail
    go_quiet (fail)
    go_wp2_with fail
    go_quiet (fail)
    go_wp2_with fail
    go_region
    all_goals go_wp2
    all_goals go_ret
    all_goals first
      | exact ⟨_, rfl, (below_drewN hb0 _), (by rw [show max x.v ver = ver from by omega])⟩
      | exact ⟨_, rfl, (below_drewN hb0 _), (by rw [show max x.v ver = x.v from by omega])⟩


/-- What take, and give, make of a lock. -/
def takeF (who : Int) (x : Lk) : Int × Lk := if freeH who x = true then (0, ⟨x.v, who⟩) else (10, x)
def giveF (who ver : Int) (x : Lk) : Int × Lk := if (x.o != who) = true then (11, x) else if (ver != -1 && decide (ver ≤ x.v)) = true then (1, x) else (0, ⟨max x.v ver, -1⟩)

/-- A row of locks of one's own. -/
def RowL (w : World) (base : Nat) (sv : Value) (ls : List Lk) : Prop := w.ownsRow base 43 2 sv ls.length (ls.flatMap encL)

/-- The call hands back r, leaves the row as ls, and turns nothing else that was there. -/
def HandPost (base g c : Nat) (r : Int) (ls : List Lk) (W : World) (e : Ending) (w' : World) : Prop :=
  e = .returned (.int .i64 r) ∧ RowL w' base (.slice (some ⟨g, 0, none⟩) ls.length c) ls ∧ W.grownBy w' (some g)

/-- A function value that does f with a lock of a row. -/
def HandSpec (gn : Nat) (bd : Array Value) (f : Lk → Int × Lk) : Prop :=
  ∀ (W : World) (base g c k : Nat) (ls : List Lk) (hk : k < ls.length), RowL W base (.slice (some ⟨g, 0, none⟩) ls.length c) ls →
    Calls Try.prog gn (bd ++ #[.pointer (some ⟨g, k * 2, none⟩)]) W (HandPost base g c (f ls[k]).1 (ls.set k (f ls[k]).2) W)

theorem grown_of_below {W w1 : World} (hb : Below W.heap.size W w1) (row : Option Nat) : W.grownBy w1 row := ⟨hb.os, hb.tape, hb.output, hb.size, fun i hi _ => hb.block i hi⟩
theorem grown_set {W w1 : World} {g : Nat} (h : W.grownBy w1 (some g)) (o : Nat) (u : Value) : W.grownBy (w1.setCell ⟨g, o, none⟩ u) (some g) :=
  ⟨h.os, h.tape, h.output, by simpa [World.setCell] using h.size, fun i hi hn => by rw [Below.heap_setCell w1 ⟨g, o, none⟩ u i (fun e => hn (by rw [e]))]; exact h.block i hi hn⟩

theorem RowL.set {w : World} {base g c : Nat} {ls : List Lk} (h : RowL w base (.slice (some ⟨g, 0, none⟩) ls.length c) ls) (k : Nat) (hk : k < ls.length) (i : Nat) (hi : i < 2) (u : Value) (y : Lk) (hy : encL y = (encL ls[k]).set i u) :
    RowL (w.setCell ⟨g, k * 2 + i, none⟩ u) base (.slice (some ⟨g, 0, none⟩) (ls.set k y).length c) (ls.set k y) := by
  have := own_set h (k * 2 + i) u
  rw [flat_set1 encL encL_len ls k hk i hi u y hy] at this
  unfold RowL
  rwa [List.length_set]

theorem RowL.elem {w : World} {base g c : Nat} {ls : List Lk} (h : RowL w base (.slice (some ⟨g, 0, none⟩) ls.length c) ls) (k : Nat) (hk : k < ls.length) :
    g < w.heap.size ∧ w.cell? ⟨g, k * 2, none⟩ = some (.int .i64 ls[k].v) ∧ w.cell? ⟨g, k * 2 + 1, none⟩ = some (.int .i64 ls[k].o) ∧ ∀ o, w.frozen? ⟨g, o, none⟩ = false := by
  obtain ⟨g', c', he, _, hg, _, _, hel, hfr⟩ := own_elem encL encL_len h k hk
  injection he with h1 _ _
  injection h1 with h1
  injection h1 with h1
  subst h1
  exact ⟨hg, by simpa using hel 0 _ rfl, hel 1 _ rfl, hfr⟩

theorem RowL.keep {w w' : World} {base : Nat} {sv : Value} {ls : List Lk} (h : RowL w base sv ls) (hb : Below w.heap.size w w') : RowL w' base sv ls := own_below h hb

theorem take_spec (who ver : Int) : HandSpec 88 #[.agg #[.int .i64 who, .int .i64 ver]] (takeF who) := by
  intro W base g c k ls hk h
  obtain ⟨hg, h0, h1, hfr⟩ := h.elem k hk
  unfold takeF
  cases hq : freeH who ls[k] with
  | true =>
    refine (htake_yes who ver ls[k] g (k * 2) W h0 h1 (hfr _) hg hq).mono ?_
    rintro e w' ⟨w1, rfl, hb, rfl⟩
    exact ⟨rfl, (h.keep hb).set k hk 1 (by omega) _ _ rfl, grown_set (grown_of_below hb _) _ _⟩
  | false =>
    refine (htake_no who ver ls[k] g (k * 2) W h0 h1 hg hq).mono ?_
    rintro e w' ⟨rfl, hb⟩
    refine ⟨rfl, ?_, grown_of_below hb _⟩
    simp only [Bool.false_eq_true, if_false, List.set_getElem_self]
    exact h.keep hb

theorem give_spec (who ver : Int) : HandSpec 92 #[.agg #[.int .i64 who, .int .i64 ver]] (giveF who ver) := by
  intro W base g c k ls hk h
  obtain ⟨hg, h0, h1, hfr⟩ := h.elem k hk
  unfold giveF
  cases hq : (ls[k].o != who) with
  | true =>
    refine (hgive_none who ver ls[k] g (k * 2) W h0 h1 hg hq).mono ?_
    rintro e w' ⟨rfl, hb⟩
    refine ⟨rfl, ?_, grown_of_below hb _⟩
    simp only [if_true, List.set_getElem_self]
    exact h.keep hb
  | false =>
    simp only [Bool.false_eq_true, if_false]
    have hyes := hgive_yes who ver ls[k] g (k * 2) W h0 h1 (hfr _) (hfr _) hg hq
    have key : ∀ w1, Below W.heap.size W w1 → HandPost base g c 0 (ls.set k ⟨max ls[k].v ver, -1⟩) W (.returned (.int .i64 0)) ((w1.setCell ⟨g, k * 2, none⟩ (.int .i64 (max ls[k].v ver))).setCell ⟨g, k * 2 + 1, none⟩ (.int .i64 (-1))) := by
      intro w1 hb
      refine ⟨rfl, ?_, grown_set (grown_set (grown_of_below hb _) _ _) _ _⟩
      have s1 := (h.keep hb).set k hk 0 (by omega) (.int .i64 (max ls[k].v ver)) ⟨max ls[k].v ver, ls[k].o⟩ rfl
      have s2 := s1.set k (by simpa using hk) 1 (by omega) (.int .i64 (-1)) ⟨max ls[k].v ver, -1⟩ (by simp [encL])
      rw [List.set_set] at s2
      exact s2
    cases h2 : (ver != -1) with
    | false =>
      simp only [Bool.false_and, Bool.false_eq_true, if_false]
      refine (hyes false h2 (fun h => by cases h)).mono ?_
      rintro e w' ⟨w1, rfl, hb, rfl⟩
      exact key w1 hb
    | true =>
      cases h3 : decide (ver ≤ ls[k].v) with
      | true =>
        simp only [Bool.and_self, if_true, List.set_getElem_self]
        refine (hgive_arg who ver ls[k] g (k * 2) W h0 h1 hg hq h2 h3).mono ?_
        rintro e w' ⟨rfl, hb⟩
        exact ⟨rfl, h.keep hb, grown_of_below hb _⟩
      | false =>
        simp only [Bool.and_false, Bool.false_eq_true, if_false]
        refine (hyes true h2 (fun _ => h3)).mono ?_
        rintro e w' ⟨w1, rfl, hb, rfl⟩
        exact key w1 hb
end Go.Proofs.Ytngimbfojccikaa
