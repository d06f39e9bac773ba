/- foliateref18.New. -/
import Derived.Test.YtkmdifngljdpeaaRkSame
namespace Go.Proofs.Ytkmdifngljdpeaa
open Go Go.RowKit
set_option linter.unusedVariables false

set_option maxHeartbeats 1000000 in
theorem RNew_no (n mx : Int) (w : World) (h : newOk n mx = false) :
    Calls Try.prog 18 #[.int .i64 n, .int .i64 mx] w fun e w' => e = .returned (.tuple #[.agg #[.int .i64 0, .int .i64 0, .slice none 0 0], .bool false]) ∧ Below w.heap.size w w' := by
  by_cases h1 : n < 1
  · clear h
    go_enter Try.func18, Try.ntmps18
    go_wp2
    exact bodyPost_ret (v := .tuple #[.agg #[.int .i64 0, .int .i64 0, .slice none 0 0], .bool false]) (by simp [results, Try.results18, go_sem]) rfl ⟨rfl, (Below.refl _ _).alloc (Nat.le_refl _) _⟩
  by_cases h2 : 8 < n
  · clear h
    go_enter Try.func18, Try.ntmps18
    go_wp2
    exact bodyPost_ret (v := .tuple #[.agg #[.int .i64 0, .int .i64 0, .slice none 0 0], .bool false]) (by simp [results, Try.results18, go_sem]) rfl ⟨rfl, (Below.refl _ _).alloc (Nat.le_refl _) _⟩
  by_cases h3 : mx < 0
  · clear h
    go_enter Try.func18, Try.ntmps18
    go_wp2
    exact bodyPost_ret (v := .tuple #[.agg #[.int .i64 0, .int .i64 0, .slice none 0 0], .bool false]) (by simp [results, Try.results18, go_sem]) rfl ⟨rfl, (Below.refl _ _).alloc (Nat.le_refl _) _⟩
  have h4 : 1000 < mx := by simp [newOk] at h; omega
  clear h
  go_enter Try.func18, Try.ntmps18
  go_wp2
  exact bodyPost_ret (v := .tuple #[.agg #[.int .i64 0, .int .i64 0, .slice none 0 0], .bool false]) (by simp [results, Try.results18, go_sem]) rfl ⟨rfl, (Below.refl _ _).alloc (Nat.le_refl _) _⟩

set_option maxRecDepth 100000 in
set_option maxHeartbeats 4000000 in
theorem RNew_yes (n : Nat) (mx : Int) (w : World) (h1 : 1 ≤ n) (h2 : n ≤ 8) (h3 : 0 ≤ mx) (h4 : mx ≤ 1000) :
    Calls Try.prog 18 #[.int .i64 (n : Int), .int .i64 mx] w fun e w' => ∃ v', e = .returned (.tuple #[v', .bool true]) ∧ LkV w' v' 0 mx (List.replicate n ⟨0, -1⟩) ∧ Below w.heap.size w w' := by
  obtain ⟨i0, hi0, hz0, hz1, hz2⟩ := info_parts clone_lock_info
  obtain ⟨w1, hw1⟩ : ∃ x, ((w.alloc (.cells #[.int .i64 0, .int .i64 0, .slice none 0 0] 24)).alloc (.cells #[.int .i64 0, .int .i64 mx, .slice none 0 0] 24)) = x := ⟨_, rfl⟩
  have HB := Lib.hid (show Below w.heap.size w w1 from hw1 ▸ ((Below.refl _ w).alloc (Nat.le_refl _) _).alloc (by simp) _)
  have K0 := Lib.hid (show Blk w1 w.heap.size 24 #[.int .i64 0, .int .i64 0, .slice none 0 0] from hw1 ▸ (Blk.new_ w _ _ _ rfl).alloc _)
  have K1 := Lib.hid (show Blk w1 (w.heap.size + 1) 24 #[.int .i64 0, .int .i64 mx, .slice none 0 0] from hw1 ▸ Blk.new_ _ _ _ _ (by simp))
  have HZ := Lib.hid (show w1.heap.size = w.heap.size + 2 by rw [← hw1]; simp)
  have HW := Lib.hid hw1
  clear hw1
  go_enter Try.func18, Try.ntmps18
  go_wp2
  rw [HW.out]
  clear HW
  go_loopg [7] n (fun gg s7 wr => ∃ (kk : Nat) (A : Option Addr) (c : Nat), kk ≤ n ∧ n - kk ≤ gg ∧ s7 = .int .i64 kk ∧ Hid (Below w.heap.size w wr) ∧ Hid (Blk wr w.heap.size 24 #[.int .i64 0, .int .i64 0, .slice none 0 0]) ∧
    Hid (Blk wr (w.heap.size + 1) 24 #[.int .i64 0, .int .i64 mx, .slice A kk c]) ∧ Hid (wr.ownsRow (w.heap.size + 2) 40 2 (.slice A kk c) kk (reps [.int .i64 0, .int .i64 (-1)] kk)))
  case atStart => exact ⟨0, none, 0, Nat.zero_le _, by omega, rfl, HB.out, K0.out, K1.out, World.ownsRow_nil _ _ _ _⟩
  case round =>
    obtain ⟨kk, A, c, hkk, hg, rfl, BW, B0, B1, OW⟩ := hrel
    clear HB K0 K1
    have k0 := B0.out
    have k1 := B1.out
    have l0 := k0.lt
    have l1 := k1.lt
    have s0 : wr.cell? ⟨w.heap.size, 0, none⟩ = some (.int .i64 0) := by rw [k0.cell]; rfl
    have s1 : wr.cell? ⟨w.heap.size, 1, none⟩ = some (.int .i64 0) := by rw [k0.cell]; rfl
    have s2 : wr.cell? ⟨w.heap.size, 2, none⟩ = some (.slice none 0 0) := by rw [k0.cell]; rfl
    have sf0 : wr.frozen? ⟨w.heap.size, 0, none⟩ = false := k0.free 0
    have sf1 : wr.frozen? ⟨w.heap.size, 1, none⟩ = false := k0.free 1
    have sf2 : wr.frozen? ⟨w.heap.size, 2, none⟩ = false := k0.free 2
    have t0 : wr.cell? ⟨w.heap.size + 1, 0, none⟩ = some (.int .i64 0) := by rw [k1.cell]; rfl
    have t1 : wr.cell? ⟨w.heap.size + 1, 1, none⟩ = some (.int .i64 mx) := by rw [k1.cell]; rfl
    have t2 : wr.cell? ⟨w.heap.size + 1, 2, none⟩ = some (.slice A kk c) := by rw [k1.cell]; rfl
    have tf0 : wr.frozen? ⟨w.heap.size + 1, 0, none⟩ = false := k1.free 0
    have tf1 : wr.frozen? ⟨w.heap.size + 1, 1, none⟩ = false := k1.free 1
    have tf2 : wr.frozen? ⟨w.heap.size + 1, 2, none⟩ = false := k1.free 2
    by_cases hlt : kk < n
    · have hltz : (kk : Int) < (n : Int) := by omega
      have hA1 := (Below.refl wr.heap.size wr).alloc (Nat.le_refl _) (.cells #[.int .i64 0, .int .i64 (-1)] 40)
      have hown := own_below OW.out hA1
      have k0a := k0.keep hA1
      have k1a := k1.keep hA1
      have hnB : Blk (wr.alloc (.cells #[.int .i64 0, .int .i64 (-1)] 40)) wr.heap.size 40 #[.int .i64 0, .int .i64 (-1)] := Blk.new _ _ _
      have hnews : ∀ j u, ([.int .i64 0, .int .i64 (-1)] : List Value)[j]? = some u → (wr.alloc (.cells #[.int .i64 0, .int .i64 (-1)] 40)).cell? ((⟨wr.heap.size, 0, none⟩ : Addr).add j) = some u := by
        intro j u hu
        rw [add_none, Nat.zero_add, hnB.cell]
        simpa using hu
      have hone : ∀ u ∈ ([.int .i64 0, .int .i64 (-1)] : List Value), u.oneCell' = true := by simp [Value.oneCell']
      have hnb := own_ne hown k1a (by decide)
      have hn0 := own_ne hown k0a (by decide)
      have hbw := BW.out.size
      have HBW := Lib.hid (BW.out.trans (hA1.mono BW.out.size))
      have HOWN := Lib.hid hown
      have HNEWS := Lib.hid hnews
      have K0A := Lib.hid k0a
      have K1A := Lib.hid k1a
      have HNB := Lib.hid hnb
      have HN0 := Lib.hid hn0
      clear hown hnews hnb hn0 k0a k1a k0 k1 hA1 hnB
      go_wp2_with (at_builtin; refine wpList_append_own_at _ rfl (.tmp 31) (.tmp 33) _ rfl (w.heap.size + 2) 40 i0 _ 2 16 Try.underlying22 hi0 hz0 hz1 hz2 rfl (by omega) (.slice A kk c) kk _ rfl HOWN.out ⟨wr.heap.size, 0, none⟩ 1 1 [.int .i64 0, .int .i64 (-1)] rfl rfl HNEWS.out hone (by unfold maxLen; omega) (by omega) (by have := HZ.out; simp; omega) ?_; intro v1 w2 hown1 hgrow _ hat; obtain ⟨g, cap, cur, rfl, hg1, hrow, _, _, _, _⟩ := own_form hown1 (by omega); have k0b := K0A.out.grown hgrow (Ne.symm HN0.out); have k1b := K1A.out.grown hgrow (Ne.symm HNB.out); have HG := Lib.hid hgrow; have HO := Lib.hid hown1; have HAT := Lib.hid hat; clear hgrow hown1 hat hrow; have u2 : w2.cell? ⟨w.heap.size + 1, 2, none⟩ = some (.slice A kk c) := (by rw [k1b.cell]; rfl); have uf2 : w2.frozen? ⟨w.heap.size + 1, 2, none⟩ = false := k1b.free 2)
      go_wp2
      go_roundg (n - (kk + 1))
      case measure => omega
      case rel =>
        refine ⟨kk + 1, some ⟨g, 0, none⟩, cap, by omega, by omega, by go_num, (show Below _ _ _ from ?_), (show Blk _ _ _ _ from ?_), (show Blk _ _ _ _ from ?_), (show World.ownsRow _ _ _ _ _ _ _ from ?_)⟩
        · refine (HBW.out.grown HG.out (by simp; omega) ?_).setCell (by simp) _
          intro k hk
          have := (HOWN.out.lt k hk).1
          omega
        · exact k0b.far (by simp) _
        · exact k1b.set_ 2 _
        · have h := HO.out
          rw [show reps [.int .i64 0, .int .i64 (-1)] kk ++ ([.int .i64 0, .int .i64 (-1)] : List Value) = reps [.int .i64 0, .int .i64 (-1)] (kk + 1) from by rw [reps_add]; simp [reps]] at h
          exact ownsRow_setCell_below h (by simp) _
    · obtain rfl : n = kk := by omega
      have hltz : ¬ (n : Int) < (n : Int) := by omega
      go_wp2
      refine bodyPost_ret (v := .tuple #[.agg #[.int .i64 0, .int .i64 mx, .slice A n c], .bool true]) (by simp [results, Try.results18, go_sem, s0, s1, s2]) rfl ⟨_, rfl, ⟨_, rfl, ?_⟩, ?_⟩
      · rw [← reps_enc, List.length_replicate]
        exact Sl.of_own (ownsRow_setCell_below (ownsRow_setCell_below (ownsRow_setCell_below OW.out (a := ⟨w.heap.size, 0, none⟩) (by simp) _) (a := ⟨w.heap.size, 1, none⟩) (by simp) _) (a := ⟨w.heap.size, 2, none⟩) (by simp) _)
      · exact ((BW.out.setCell (by simp) _).setCell (by simp) _).setCell (by simp) _
end Go.Proofs.Ytkmdifngljdpeaa
