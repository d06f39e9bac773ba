/- foliateref16.with, had. -/
import Derived.Test.YtelfkopoppfaaaaRpMay
namespace Go.Proofs.Ytelfkopoppfaaaa
open Go Go.RowKit
set_option linter.unusedVariables false
attribute [local go_sem ↓] Go.wp_at_zero Go.wp_at_succ

/-- A store whose row is new: none from below base. -/
def StO (w : World) (base : Nat) (v : Value) (cap : Int) (ps : List Pg) : Prop := ∃ sv, v = .agg #[.int .i64 cap, sv] ∧ w.ownsRow base 37 5 sv ps.length (ps.flatMap encP)

theorem StO.to {w : World} {base : Nat} {v : Value} {cap : Int} {ps : List Pg} (h : StO w base v cap ps) : StV w v cap ps := by
  obtain ⟨sv, rfl, h⟩ := h
  exact ⟨sv, rfl, Sl.of_own h⟩

theorem Sl.news {w : World} {k b o n c : Nat} {vs : List Value} (h : Sl w k (.slice (some ⟨b, o, none⟩) n c) n vs) (h0 : 0 < n) (W : World) (hW : Below w.heap.size w W) (j : Nat) (u : Value) (hu : vs[j]? = some u) : W.cell? ⟨b, o + j, none⟩ = some u := by
  rcases h.2 with ⟨he, _⟩ | ⟨a, c', he, _, _, hr⟩
  · cases he
  · injection he with h1 _ _
    injection h1 with h1
    subst h1
    exact ((hr h0).2.same hW).2 j u hu

theorem pg_elem {w : World} {base g c : Nat} {ps : List Pg} (h : w.ownsRow base 37 5 (.slice (some ⟨g, 0, none⟩) ps.length c) ps.length (ps.flatMap encP)) (k : Nat) (hk : k < ps.length) :
    g < w.heap.size ∧ (∀ i u, (encP ps[k])[i]? = some u → w.cell? ⟨g, k * 5 + i, none⟩ = some u) ∧ ∀ o, w.frozen? ⟨g, o, none⟩ = false := by
  obtain ⟨g', c', he, _, hg, _, _, hel, hfr⟩ := own_elem encP encP_len h k hk
  injection he with h1 _ _
  injection h1 with h1
  injection h1 with h1
  subst h1
  exact ⟨hg, hel, hfr⟩

set_option maxHeartbeats 2000000 in
theorem with_any (v : Value) (cap : Int) (k : Nat) (y : Pg) (ps : List Pg) (w : World) (hv : StV w v cap ps) (hk : k < ps.length) (hn : ps.length ≤ 1000) :
    Calls Try.prog 33 #[v, .int .i64 (k : Int), .agg (encP y).toArray] w fun e w' => ∃ v', e = .returned v' ∧ StO w' w.heap.size v' cap (ps.set k y) ∧ Below w.heap.size w w' := by
  obtain ⟨i0, hi0, hz0, hz1, hz2⟩ := info_parts clone_page_info
  obtain ⟨A, c, rfl, hv⟩ := hv.form
  have hsl := hv.sl
  obtain ⟨b, o, rfl, hlt, -⟩ := Sl.pos encP encP_len hsl (by omega)
  simp only [encP]
  obtain ⟨w1, hw1⟩ : ∃ x, ((w.alloc (.cells #[.int .i64 cap, .slice (some ⟨b, o, none⟩) ps.length c] 25)).alloc (.cells #[.int .i64 y.r, .int .i64 y.a, .int .i64 y.b, .int .i64 y.c, .int .i64 y.d] 37)).alloc (.cells #[.int .i64 0, .slice none 0 0] 25) = x := ⟨_, rfl⟩
  have hb0 : Below w.heap.size w w1 := hw1 ▸ (((Below.refl _ w).alloc (Nat.le_refl _) _).alloc (by simp) _).alloc (by simp; omega) _
  have k0 : Blk w1 w.heap.size 25 #[.int .i64 cap, .slice (some ⟨b, o, none⟩) ps.length c] := hw1 ▸ ((Blk.new_ w _ _ _ rfl).alloc _).alloc _
  have k1 : Blk w1 (w.heap.size + 1) 37 #[.int .i64 y.r, .int .i64 y.a, .int .i64 y.b, .int .i64 y.c, .int .i64 y.d] := hw1 ▸ (Blk.new_ _ _ _ _ (by simp)).alloc _
  have k2 : Blk w1 (w.heap.size + 2) 25 #[.int .i64 0, .slice none 0 0] := hw1 ▸ Blk.new_ _ _ _ _ (by simp)
  have hsz : w1.heap.size = w.heap.size + 3 := by rw [← hw1]; simp
  have hnews : ∀ j u, (ps.flatMap encP)[j]? = some u → w1.cell? ((⟨b, o, none⟩ : Addr).add j) = some u := by
    intro j u hu
    rw [add_none]
    exact hsl.news (by omega) w1 hb0 j u hu
  have hl : (ps.flatMap encP).length = ps.length * 5 := by rw [flat_len encP encP_len]
  have h1 := encP_one ps
  have HW := Lib.hid hw1
  clear hv hsl hw1
  have s0 : w1.cell? ⟨w.heap.size, 0, none⟩ = some (.int .i64 cap) := by rw [k0.cell]; rfl
  have sf0 : w1.frozen? ⟨w.heap.size, 0, none⟩ = false := k0.free 0
  have s1 : w1.cell? ⟨w.heap.size, 1, none⟩ = some (.slice (some ⟨b, o, none⟩) ps.length c) := by rw [k0.cell]; rfl
  have sf1 : w1.frozen? ⟨w.heap.size, 1, none⟩ = false := k0.free 1
  have a0 : w1.cell? ⟨w.heap.size + 1, 0, none⟩ = some (.int .i64 y.r) := by rw [k1.cell]; rfl
  have af0 : w1.frozen? ⟨w.heap.size + 1, 0, none⟩ = false := k1.free 0
  have a1 : w1.cell? ⟨w.heap.size + 1, 1, none⟩ = some (.int .i64 y.a) := by rw [k1.cell]; rfl
  have af1 : w1.frozen? ⟨w.heap.size + 1, 1, none⟩ = false := k1.free 1
  have a2 : w1.cell? ⟨w.heap.size + 1, 2, none⟩ = some (.int .i64 y.b) := by rw [k1.cell]; rfl
  have af2 : w1.frozen? ⟨w.heap.size + 1, 2, none⟩ = false := k1.free 2
  have a3 : w1.cell? ⟨w.heap.size + 1, 3, none⟩ = some (.int .i64 y.c) := by rw [k1.cell]; rfl
  have af3 : w1.frozen? ⟨w.heap.size + 1, 3, none⟩ = false := k1.free 3
  have a4 : w1.cell? ⟨w.heap.size + 1, 4, none⟩ = some (.int .i64 y.d) := by rw [k1.cell]; rfl
  have af4 : w1.frozen? ⟨w.heap.size + 1, 4, none⟩ = false := k1.free 4
  have p0 : w1.cell? ⟨w.heap.size + 2, 0, none⟩ = some (.int .i64 0) := by rw [k2.cell]; rfl
  have pf0 : w1.frozen? ⟨w.heap.size + 2, 0, none⟩ = false := k2.free 0
  have p1 : w1.cell? ⟨w.heap.size + 2, 1, none⟩ = some (.slice none 0 0) := by rw [k2.cell]; rfl
  have pf1 : w1.frozen? ⟨w.heap.size + 2, 1, none⟩ = false := k2.free 1
  have hk0 : (0 : Int) ≤ (k : Int) := by omega
  have hk1 : (k : Int) < (ps.length : Int) := by omega
  have HB := Lib.hid hb0
  clear hb0
  go_enter Try.func33, Try.ntmps33
  go_upto_region 1 with fail
  rw [HW.out]
  clear HW
  go_wp2_with (at_builtin; refine wpList_append_own_at _ rfl (.const (.slice none 0 0)) (.tmp 8) _ rfl w1.heap.size 37 i0 _ 5 40 Try.underlying23 hi0 hz0 hz1 hz2 rfl (by omega) (.slice none 0 0) 0 [] rfl (World.ownsRow_nil _ _ _ _) ⟨b, o, none⟩ ps.length c (ps.flatMap encP) rfl hl hnews h1 (by unfold maxLen; omega) (by omega) (by simp) ?_; intro v1 w2 hown hgrow _ _; simp only [Nat.zero_add, List.nil_append] at hown; obtain ⟨g, gc, cur, rfl, hg, hrow, hc1, hc2, hc3, hc4⟩ := own_form hown (by omega); obtain ⟨hgl, hel, hfr⟩ := pg_elem hown k hk; have e0 := hel 0 _ rfl; have e1 := hel 1 _ rfl; have e2 := hel 2 _ rfl; have e3 := hel 3 _ rfl; have e4 := hel 4 _ rfl; simp only [Nat.add_zero] at e0; have t0' := (hgrow.cell_far ⟨w.heap.size, 0, none⟩ (by rw [hsz]; simp; try omega) (by simp [Value.ownBlock])).trans s0; have tf0' := (hgrow.frozen_far ⟨w.heap.size, 0, none⟩ (by rw [hsz]; simp; try omega) (by simp [Value.ownBlock])).trans sf0; have t1' := (hgrow.cell_far ⟨w.heap.size, 1, none⟩ (by rw [hsz]; simp; try omega) (by simp [Value.ownBlock])).trans s1; have tf1' := (hgrow.frozen_far ⟨w.heap.size, 1, none⟩ (by rw [hsz]; simp; try omega) (by simp [Value.ownBlock])).trans sf1; have b0' := (hgrow.cell_far ⟨w.heap.size + 1, 0, none⟩ (by rw [hsz]; simp; try omega) (by simp [Value.ownBlock])).trans a0; have bf0' := (hgrow.frozen_far ⟨w.heap.size + 1, 0, none⟩ (by rw [hsz]; simp; try omega) (by simp [Value.ownBlock])).trans af0; have b1' := (hgrow.cell_far ⟨w.heap.size + 1, 1, none⟩ (by rw [hsz]; simp; try omega) (by simp [Value.ownBlock])).trans a1; have bf1' := (hgrow.frozen_far ⟨w.heap.size + 1, 1, none⟩ (by rw [hsz]; simp; try omega) (by simp [Value.ownBlock])).trans af1; have b2' := (hgrow.cell_far ⟨w.heap.size + 1, 2, none⟩ (by rw [hsz]; simp; try omega) (by simp [Value.ownBlock])).trans a2; have bf2' := (hgrow.frozen_far ⟨w.heap.size + 1, 2, none⟩ (by rw [hsz]; simp; try omega) (by simp [Value.ownBlock])).trans af2; have b3' := (hgrow.cell_far ⟨w.heap.size + 1, 3, none⟩ (by rw [hsz]; simp; try omega) (by simp [Value.ownBlock])).trans a3; have bf3' := (hgrow.frozen_far ⟨w.heap.size + 1, 3, none⟩ (by rw [hsz]; simp; try omega) (by simp [Value.ownBlock])).trans af3; have b4' := (hgrow.cell_far ⟨w.heap.size + 1, 4, none⟩ (by rw [hsz]; simp; try omega) (by simp [Value.ownBlock])).trans a4; have bf4' := (hgrow.frozen_far ⟨w.heap.size + 1, 4, none⟩ (by rw [hsz]; simp; try omega) (by simp [Value.ownBlock])).trans af4; have q0' := (hgrow.cell_far ⟨w.heap.size + 2, 0, none⟩ (by rw [hsz]; simp; try omega) (by simp [Value.ownBlock])).trans p0; have qf0' := (hgrow.frozen_far ⟨w.heap.size + 2, 0, none⟩ (by rw [hsz]; simp; try omega) (by simp [Value.ownBlock])).trans pf0; have q1' := (hgrow.cell_far ⟨w.heap.size + 2, 1, none⟩ (by rw [hsz]; simp; try omega) (by simp [Value.ownBlock])).trans p1; have qf1' := (hgrow.frozen_far ⟨w.heap.size + 2, 1, none⟩ (by rw [hsz]; simp; try omega) (by simp [Value.ownBlock])).trans pf1; have n0 : ¬ g = w.heap.size := (by omega); have n1 : ¬ g = w.heap.size + 1 := (by omega); have n2 : ¬ g = w.heap.size + 2 := (by omega); have n3 : ¬ w.heap.size = g := (by omega); have n4 : ¬ w.heap.size + 1 = g := (by omega); have n5 : ¬ w.heap.size + 2 = g := (by omega); have hgle : w.heap.size + 3 ≤ g := (by omega); have HO := Lib.hid hown; have HG := Lib.hid hgrow; clear hown hgrow hrow hg hc1 hc2 hc3 hc4 hel)
  refine bodyPost_ret (v := .agg #[.int .i64 cap, .slice (some ⟨g, 0, none⟩) ps.length gc]) (by simp [results, Try.results33, go_sem, q0', q1']) rfl ⟨_, rfl, ⟨_, rfl, ?_⟩, ?_⟩
  · have r0 : World.ownsRow _ w1.heap.size 37 5 (.slice (some ⟨g, 0, none⟩) ps.length gc) ps.length (ps.flatMap encP) := ownsRow_setCell_below HO.out (a := ⟨w.heap.size, 1, none⟩) (by first | (rw [hsz]; simp; done) | (rw [hsz]; simp; omega)) (.slice (some ⟨g, 0, none⟩) ps.length gc)
    have r1 := own_page r0 k hk y
    have r3 := ownsRow_mono (ownsRow_setCell_below (ownsRow_setCell_below r1 (a := ⟨w.heap.size + 1 + 1, 0, none⟩) (by first | (rw [hsz]; simp; done) | (rw [hsz]; simp; omega)) (.int .i64 cap)) (a := ⟨w.heap.size + 1 + 1, 1, none⟩) (by first | (rw [hsz]; simp; done) | (rw [hsz]; simp; omega)) (.slice (some ⟨g, 0, none⟩) ps.length gc)) (show w.heap.size ≤ w1.heap.size by omega)
    rw [List.length_set]
    exact r3
  · exact (((((((((HB.out.grown HG.out (by omega) (by simp [Value.ownBlock])).setCell (by simp) _).setCell (by simp; omega) _).setCell (by simp; omega) _).setCell (by simp; omega) _).setCell (by simp; omega) _).setCell (by simp; omega) _).setCell (by simp; omega) _).setCell (by simp; omega) _)

/-- Is there a page that is had? -/
def hadR (ps : List Pg) (p : Int) : Bool := decide (0 ≤ p) && (decide (p < (ps.length : Int)) && decide (0 < (pgAt ps p).r))

set_option maxHeartbeats 1000000 in
theorem rhad_any (v : Value) (cap p : Int) (ps : List Pg) (w : World) (hv : StV w v cap ps) :
    Calls Try.prog 34 #[v, .int .i64 p] w fun e w' => e = .returned (.bool (hadR ps p)) ∧ Below w.heap.size w w' := by
  obtain ⟨A, c, rfl, hv⟩ := hv.form
  have hb0 : Below w.heap.size w (w.alloc (.cells #[.int .i64 cap, .slice A ps.length c] 25)) := (Below.refl _ w).alloc (Nat.le_refl _) _
  by_cases h1 : 0 ≤ p
  · obtain ⟨k, rfl⟩ := Int.eq_ofNat_of_zero_le h1
    by_cases h2 : k < ps.length
    · have h2' : (k : Int) < (ps.length : Int) := by omega
      obtain ⟨b, o, rfl, hlt, hel⟩ := Sl.pos encP encP_len hv.sl (by omega)
      have e0 := hel w (Below.refl _ _) k h2 0 _ rfl
      simp only [Nat.add_zero] at e0
      rw [show hadR ps k = decide (0 < ps[k].r) from by simp [hadR, h2', pgAt_get h2]]
      generalize ps[k] = x at *
      clear hel hv
      go_enter Try.func34, Try.ntmps34
      go_wp2
      go_ret
      exact ⟨rfl, hb0⟩
    · have h2' : ¬ (k : Int) < (ps.length : Int) := by omega
      rw [show hadR ps k = false from by simp [hadR]; omega]
      clear hv
      go_enter Try.func34, Try.ntmps34
      go_wp2
      go_ret
      exact ⟨rfl, hb0⟩
  · rw [show hadR ps p = false from by simp [hadR]; omega]
    clear hv
    go_enter Try.func34, Try.ntmps34
    go_wp2
    go_ret
    exact ⟨rfl, hb0⟩

end Go.Proofs.Ytelfkopoppfaaaa
