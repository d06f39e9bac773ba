/- foliateref18: with, Take, Give. -/
import Derived.Test.YtkmdifngljdpeaaRkMay
import Derived.Deep.DeepCutAuto
namespace Go.Proofs.Ytkmdifngljdpeaa
open Go Go.RowKit
set_option linter.unusedVariables false
attribute [local go_sem ↓] Go.wp_at_zero Go.wp_at_succ

theorem Sl.news {w : World} {k b o n c : Nat} {vs : List Value} (h : Sl w k (.slice (some ⟨b, o, none⟩) n c) n vs) (h0 : 0 < n) (W : World) (hW : Below w.heap.size w W) (j : Nat) (u : Value) (hu : vs[j]? = some u) : W.cell? ⟨b, o + j, none⟩ = some u := by
  rcases h.2 with ⟨he, _⟩ | ⟨a, c', he, _, _, hr⟩
  · cases he
  · injection he with h1 _ _
    injection h1 with h1
    subst h1
    exact ((hr h0).2.same hW).2 j u hu

set_option maxHeartbeats 2000000 in
theorem with_any (v : Value) (now mx : Int) (k : Nat) (y : Lk) (ls : List Lk) (w : World) (hv : LkV w v now mx ls) (hk : k < ls.length) (hn : ls.length ≤ 1000) :
    Calls Try.prog 28 #[v, .int .i64 (k : Int), .agg (encL y).toArray] w fun e w' => ∃ v', e = .returned v' ∧ LkO w' w.heap.size v' now mx (ls.set k y) ∧ Below w.heap.size w w' := by
  obtain ⟨i0, hi0, hz0, hz1, hz2⟩ := info_parts clone_lock_info
  obtain ⟨A, c, rfl, hv⟩ := hv.form
  obtain ⟨b, o, rfl, hlt, hel⟩ := Sl.pos encL encL_len hv.sl (by omega)
  have hsl := hv.sl
  simp only [encL]
  obtain ⟨w1, hw1⟩ : ∃ x, ((w.alloc (.cells #[.int .i64 now, .int .i64 mx, .slice (some ⟨b, o, none⟩) ls.length c] 24)).alloc (.cells #[.int .i64 y.v, .int .i64 y.o] 40)).alloc (.cells #[.int .i64 0, .int .i64 0, .slice none 0 0] 24) = x := ⟨_, rfl⟩
  have hb0 : Below w.heap.size w w1 := hw1 ▸ (((Below.refl _ w).alloc (Nat.le_refl _) _).alloc (by simp) _).alloc (by simp; omega) _
  have k0 : Blk w1 w.heap.size 24 #[.int .i64 now, .int .i64 mx, .slice (some ⟨b, o, none⟩) ls.length c] := hw1 ▸ ((Blk.new_ w _ _ _ rfl).alloc _).alloc _
  have k1 : Blk w1 (w.heap.size + 1) 40 #[.int .i64 y.v, .int .i64 y.o] := hw1 ▸ (Blk.new_ _ _ _ _ (by simp)).alloc _
  have k2 : Blk w1 (w.heap.size + 2) 24 #[.int .i64 0, .int .i64 0, .slice none 0 0] := hw1 ▸ Blk.new_ _ _ _ _ (by simp)
  have hsz : w1.heap.size = w.heap.size + 3 := by rw [← hw1]; simp
  have hnews : ∀ j u, (ls.flatMap encL)[j]? = some u → w1.cell? ((⟨b, o, none⟩ : Addr).add j) = some u := by
    intro j u hu
    rw [add_none]
    exact hsl.news (by omega) w1 hb0 j u hu
  have hl : (ls.flatMap encL).length = ls.length * 2 := by rw [flat_len encL encL_len]
  have h1 := flat_one ls
  have HW := Lib.hid hw1
  clear hv hel hsl hw1
  have s0 : w1.cell? ⟨w.heap.size, 0, none⟩ = some (.int .i64 now) := by rw [k0.cell]; rfl
  have s1 : w1.cell? ⟨w.heap.size, 1, none⟩ = some (.int .i64 mx) := by rw [k0.cell]; rfl
  have s2 : w1.cell? ⟨w.heap.size, 2, none⟩ = some (.slice (some ⟨b, o, none⟩) ls.length c) := by rw [k0.cell]; rfl
  have sf0 : w1.frozen? ⟨w.heap.size, 0, none⟩ = false := k0.free 0
  have sf1 : w1.frozen? ⟨w.heap.size, 1, none⟩ = false := k0.free 1
  have sf2 : w1.frozen? ⟨w.heap.size, 2, none⟩ = false := k0.free 2
  have p0 : w1.cell? ⟨w.heap.size + 2, 0, none⟩ = some (.int .i64 0) := by rw [k2.cell]; rfl
  have p1 : w1.cell? ⟨w.heap.size + 2, 1, none⟩ = some (.int .i64 0) := by rw [k2.cell]; rfl
  have p2 : w1.cell? ⟨w.heap.size + 2, 2, none⟩ = some (.slice none 0 0) := by rw [k2.cell]; rfl
  have pf0 : w1.frozen? ⟨w.heap.size + 2, 0, none⟩ = false := k2.free 0
  have pf1 : w1.frozen? ⟨w.heap.size + 2, 1, none⟩ = false := k2.free 1
  have pf2 : w1.frozen? ⟨w.heap.size + 2, 2, none⟩ = false := k2.free 2
  have a0 : w1.cell? ⟨w.heap.size + 1, 0, none⟩ = some (.int .i64 y.v) := by rw [k1.cell]; rfl
  have a1 : w1.cell? ⟨w.heap.size + 1, 1, none⟩ = some (.int .i64 y.o) := by rw [k1.cell]; rfl
  have af0 : w1.frozen? ⟨w.heap.size + 1, 0, none⟩ = false := k1.free 0
  have af1 : w1.frozen? ⟨w.heap.size + 1, 1, none⟩ = false := k1.free 1
  have hk0 : (0 : Int) ≤ (k : Int) := by omega
  have hk1 : (k : Int) < (ls.length : Int) := by omega
  have HB := Lib.hid hb0
  clear hb0
  go_enter Try.func28, Try.ntmps28
  go_upto_region 1 with fail
  rw [HW.out]
  clear HW
  go_wp2_with (at_builtin; refine wpList_append_own_at _ rfl (.const (.slice none 0 0)) (.tmp 8) _ rfl w1.heap.size 40 i0 _ 2 16 Try.underlying22 hi0 hz0 hz1 hz2 rfl (by omega) (.slice none 0 0) 0 [] rfl (World.ownsRow_nil _ _ _ _) ⟨b, o, none⟩ ls.length c (ls.flatMap encL) rfl hl hnews h1 (by unfold maxLen; omega) (by omega) (by simp) ?_; intro v1 w2 hown hgrow _ _; simp only [Nat.zero_add, List.nil_append] at hown; obtain ⟨g, cap, cur, rfl, hg, hrow, hc1, hc2, hc3, hc4⟩ := own_form hown (by omega); obtain ⟨hgl, e0, e1, hfr⟩ := RowL.elem (ls := ls) hown k hk; have t0 := (hgrow.cell_far ⟨w.heap.size, 0, none⟩ (by rw [hsz]; simp; try omega) (by simp [Value.ownBlock])).trans s0; have tf0 := (hgrow.frozen_far ⟨w.heap.size, 0, none⟩ (by rw [hsz]; simp; try omega) (by simp [Value.ownBlock])).trans sf0; have t1 := (hgrow.cell_far ⟨w.heap.size, 1, none⟩ (by rw [hsz]; simp; try omega) (by simp [Value.ownBlock])).trans s1; have tf1 := (hgrow.frozen_far ⟨w.heap.size, 1, none⟩ (by rw [hsz]; simp; try omega) (by simp [Value.ownBlock])).trans sf1; have t2 := (hgrow.cell_far ⟨w.heap.size, 2, none⟩ (by rw [hsz]; simp; try omega) (by simp [Value.ownBlock])).trans s2; have tf2 := (hgrow.frozen_far ⟨w.heap.size, 2, none⟩ (by rw [hsz]; simp; try omega) (by simp [Value.ownBlock])).trans sf2; have b0 := (hgrow.cell_far ⟨w.heap.size + 1, 0, none⟩ (by rw [hsz]; simp; try omega) (by simp [Value.ownBlock])).trans a0; have bf0 := (hgrow.frozen_far ⟨w.heap.size + 1, 0, none⟩ (by rw [hsz]; simp; try omega) (by simp [Value.ownBlock])).trans af0; have b1 := (hgrow.cell_far ⟨w.heap.size + 1, 1, none⟩ (by rw [hsz]; simp; try omega) (by simp [Value.ownBlock])).trans a1; have bf1 := (hgrow.frozen_far ⟨w.heap.size + 1, 1, none⟩ (by rw [hsz]; simp; try omega) (by simp [Value.ownBlock])).trans af1; have q0 := (hgrow.cell_far ⟨w.heap.size + 2, 0, none⟩ (by rw [hsz]; simp; try omega) (by simp [Value.ownBlock])).trans p0; have qf0 := (hgrow.frozen_far ⟨w.heap.size + 2, 0, none⟩ (by rw [hsz]; simp; try omega) (by simp [Value.ownBlock])).trans pf0; have q1 := (hgrow.cell_far ⟨w.heap.size + 2, 1, none⟩ (by rw [hsz]; simp; try omega) (by simp [Value.ownBlock])).trans p1; have qf1 := (hgrow.frozen_far ⟨w.heap.size + 2, 1, none⟩ (by rw [hsz]; simp; try omega) (by simp [Value.ownBlock])).trans pf1; have q2 := (hgrow.cell_far ⟨w.heap.size + 2, 2, none⟩ (by rw [hsz]; simp; try omega) (by simp [Value.ownBlock])).trans p2; have qf2 := (hgrow.frozen_far ⟨w.heap.size + 2, 2, none⟩ (by rw [hsz]; simp; try omega) (by simp [Value.ownBlock])).trans pf2; have n0 : ¬ g = w.heap.size := (by omega); have n1 : ¬ g = w.heap.size + 1 := (by omega); have n2 : ¬ g = w.heap.size + 2 := (by omega); have n3 : ¬ w.heap.size = g := (by omega); have n4 : ¬ w.heap.size + 1 = g := (by omega); have n5 : ¬ w.heap.size + 2 = g := (by omega); have hgle : w.heap.size + 3 ≤ g := (by omega); have HO := Lib.hid hown; have HG := Lib.hid hgrow; clear hown hgrow hrow hg hc1 hc2 hc3 hc4)
  refine bodyPost_ret (v := .agg #[.int .i64 now, .int .i64 mx, .slice (some ⟨g, 0, none⟩) ls.length cap]) (by simp [results, Try.results28, go_sem, q0, q1, q2]) rfl ⟨_, rfl, ⟨_, rfl, ?_⟩, ?_⟩
  · have r0 : RowL _ w1.heap.size (.slice (some ⟨g, 0, none⟩) ls.length cap) ls := ownsRow_setCell_below HO.out (a := ⟨w.heap.size, 2, none⟩) (by first | (rw [hsz]; simp; done) | (rw [hsz]; simp; omega)) (.slice (some ⟨g, 0, none⟩) ls.length cap)
    have r1 := r0.set k hk 0 (by omega) (.int .i64 y.v) ⟨y.v, ls[k].o⟩ rfl
    have r2 := r1.set k (by simpa using hk) 1 (by omega) (.int .i64 y.o) y (by simp [encL])
    rw [List.set_set] at r2
    unfold RowL at r2
    have r3 := ownsRow_mono (ownsRow_setCell_below (ownsRow_setCell_below (ownsRow_setCell_below r2 (a := ⟨w.heap.size + 1 + 1, 0, none⟩) (by first | (rw [hsz]; simp; done) | (rw [hsz]; simp; omega)) (.int .i64 now)) (a := ⟨w.heap.size + 1 + 1, 1, none⟩) (by first | (rw [hsz]; simp; done) | (rw [hsz]; simp; omega)) (.int .i64 mx)) (a := ⟨w.heap.size + 1 + 1, 2, none⟩) (by first | (rw [hsz]; simp; done) | (rw [hsz]; simp; omega)) (.slice (some ⟨g, 0, none⟩) ls.length cap)) (show w.heap.size ≤ w1.heap.size by omega)
    unfold RowL
    rw [List.length_set] at r3 ⊢
    exact r3
  · exact (((((((HB.out.grown HG.out (by omega) (by simp [Value.ownBlock])).setCell (by simp) _).setCell (by simp; omega) _).setCell (by simp; omega) _).setCell (by simp; omega) _).setCell (by simp; omega) _).setCell (by simp; omega) _)
end Go.Proofs.Ytkmdifngljdpeaa
