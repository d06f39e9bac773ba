/- awake: the chapter's example. -/
import Derived.Test.YtelfkopoppfaaaaPgUsed
namespace Go.Proofs.Ytelfkopoppfaaaa
open Go Go.RowKit

theorem awake_alloc : allocX 2 [] = (0, 0, [⟨1, 0, 0, 0, 0⟩]) := by rfl
theorem awake_share : shareL 2 [⟨1, 0, 0, 0, 0⟩] 0 = (0, [⟨2, 0, 0, 0, 0⟩]) := by rfl
theorem awake_write : writeL 2 [⟨2, 0, 0, 0, 0⟩] 0 1 7 = (1, 0, [⟨1, 0, 0, 0, 0⟩, ⟨1, 0, 7, 0, 0⟩]) := by rfl
theorem awake_may : mayP 2 [⟨1, 0, 0, 0, 0⟩, ⟨1, 0, 7, 0, 0⟩] = true := by rfl
theorem awake_used : usedL 2 [⟨1, 0, 0, 0, 0⟩, ⟨1, 0, 7, 0, 0⟩] = 2 := by rfl
theorem awake_same : sameP 2 [⟨1, 0, 0, 0, 0⟩, ⟨1, 0, 7, 0, 0⟩] 2 [⟨1, 0, 0, 0, 0⟩, ⟨1, 0, 7, 0, 0⟩] = true := by rfl

/-- A store's value, written out. -/
theorem StV.form {w : World} {v : Value} {cap : Int} {ps : List Pg} (h : StV w v cap ps) : ∃ A c, v = .agg #[.int .i64 cap, .slice A ps.length c] ∧ StV w (.agg #[.int .i64 cap, .slice A ps.length c]) cap ps := by
  obtain ⟨sv, rfl, hs⟩ := h
  obtain ⟨A, c, rfl, _, _⟩ := hs.form
  exact ⟨A, c, rfl, _, rfl, hs⟩

theorem StV.sl {w : World} {sv : Value} {cap cap' : Int} {ps : List Pg} (h : StV w (.agg #[.int .i64 cap', sv]) cap ps) : Sl w 5 sv ps.length (ps.flatMap encP) := by
  obtain ⟨sv', he, hs⟩ := h
  cases he
  exact hs

/-- Where the elements of a store lie, if there are any. -/
theorem StV.elem {w : World} {A : Option Addr} {n c : Nat} {cap cap' : Int} {ps : List Pg} (h : StV w (.agg #[.int .i64 cap', .slice A n c]) cap ps) (h0 : 0 < ps.length) :
    ∃ b o, A = some ⟨b, o, none⟩ ∧ b < w.heap.size ∧ n = ps.length ∧ ∀ (W : World), Below w.heap.size w W → ∀ j (hj : j < ps.length) i u, (encP ps[j])[i]? = some u → W.cell? ⟨b, o + j * 5 + i, none⟩ = some u := by
  have hs := h.sl
  have hn : n = ps.length := by
    obtain ⟨A', c', he, _⟩ := hs.form
    injection he
  subst hn
  have hA : ∃ a, A = some a := by
    rcases hs.2 with ⟨h, h'⟩ | ⟨a, c, h, _⟩
    · omega
    · injection h with h; exact ⟨a, h⟩
  obtain ⟨a, rfl⟩ := hA
  have hel := Sl.elem encP encP_len hs
  have h1 := hel w (Below.refl _ _) 0 h0
  obtain ⟨b, o, t⟩ := a
  obtain ⟨rfl, h1, _⟩ := h1
  exact ⟨b, o, rfl, h1, rfl, fun W hW j hj => (hel W hW j hj).2.2⟩

set_option maxRecDepth 100000 in
set_option maxHeartbeats 2000000 in
theorem awake_any (w : World) : Calls Try.prog 10 #[] w fun e w' => e = .returned (.bool true) ∧ Below w.heap.size w w' := by
  have hnew := New_yes 2 w (by omega) (by omega)
  go_enter Try.func10, Try.ntmps10
  go_wp2_with fail
  refine hnew.mono ?_
  rintro e w1 ⟨v1, rfl, hst1, hb1⟩
  obtain ⟨A1, c1, rfl, hst1⟩ := hst1.form
  simp only [List.length_nil] at hst1 ⊢
  go_wp2_with fail
  have hB1 := hb1.alloc hb1.size (.cells #[.int .i64 2, .slice A1 0 c1] 25)
  refine (Alloc_any _ _ _ _ (hst1.below ((Below.refl _ _).alloc (Nat.le_refl _) _)) (by simp)).mono ?_
  rw [awake_alloc]
  rintro e w2 ⟨v2, rfl, hst2, hb2, -⟩
  obtain ⟨A2, c2, rfl, hst2⟩ := hst2.form
  simp only [List.length_cons, List.length_nil, Nat.zero_add] at hst2 ⊢
  have hB2 := hB1.trans (hb2.mono hB1.size)
  clear hst1 hB1 hb1
  go_wp2_with fail
  have hB2' := hB2.alloc hB2.size (.cells #[.int .i64 2, .slice A2 1 c2] 25)
  refine (Share_any _ _ _ _ _ (hst2.below ((Below.refl _ _).alloc (Nat.le_refl _) _)) (by simp)).mono ?_
  rw [awake_share]
  rintro e w3 ⟨v3, rfl, hst3, hb3⟩
  obtain ⟨A3, c3, rfl, hst3⟩ := hst3.form
  simp only [List.length_cons, List.length_nil, Nat.zero_add] at hst3 ⊢
  have hB3 := hB2'.trans (hb3.mono hB2'.size)
  clear hst2 hB2 hB2' hb2
  go_wp2_with fail
  have hB3' := hB3.alloc hB3.size (.cells #[.int .i64 2, .slice A3 1 c3] 25)
  refine (Write_any _ _ _ _ _ _ _ (hst3.below ((Below.refl _ _).alloc (Nat.le_refl _) _)) (by simp)).mono ?_
  rw [awake_write]
  rintro e w4 ⟨v4, rfl, hst4, hb4⟩
  obtain ⟨A4, c4, rfl, hst4⟩ := hst4.form
  simp only [List.length_cons, List.length_nil, Nat.zero_add, Nat.reduceAdd] at hst4 ⊢
  have hB4 := hB3'.trans (hb4.mono hB3'.size)
  clear hst3 hB3 hB3' hb3 hb4
  obtain ⟨b4, o4, rfl, hlt4, -, hel⟩ := hst4.elem (by simp)
  have q0 : w4.cell? ⟨b4, o4, none⟩ = some (.int .i64 1) := hel w4 (Below.refl _ _) 0 (by simp) 0 _ rfl
  have q1 : w4.cell? ⟨b4, o4 + 5 + 1 + 1, none⟩ = some (.int .i64 7) := hel w4 (Below.refl _ _) 1 (by simp) 2 _ rfl
  clear hel
  have hne4 : ¬ w4.heap.size = b4 := by omega
  go_wp2_with fail
  have hB4' := hB4.alloc hB4.size (.cells #[.int .i64 2, .slice (some ⟨b4, o4, none⟩) 2 c4] 25)
  have hst5 := hst4.below ((Below.refl _ _).alloc (Nat.le_refl _) (.cells #[.int .i64 2, .slice (some ⟨b4, o4, none⟩) 2 c4] 25))
  refine (may_any _ _ _ _ hst5.sl).mono ?_
  rw [awake_may]
  rintro e w5 ⟨rfl, hb5⟩
  obtain ⟨hc5, hf5⟩ := bcell hb5
  have hz5 := hb5.size
  simp at hz5
  have z5 : w4.heap.size < w5.heap.size := by omega
  have hB5 := hB4'.trans (hb5.mono hB4'.size)
  go_wp2_with fail
  refine (Used_any _ _ _ _ (hst5.below hb5)).mono ?_
  rw [awake_used]
  rintro e w6 ⟨rfl, hb6⟩
  obtain ⟨hc6, hf6⟩ := bcell hb6
  have hB6 := hB5.trans (hb6.mono hB5.size)
  go_wp2_with fail
  refine (Same_any _ _ _ _ _ _ _ ((hst5.below hb5).below hb6) ((hst5.below hb5).below hb6)).mono ?_
  rw [awake_same]
  rintro e w7 ⟨rfl, hb7⟩
  go_wp2
  go_ret
  exact ⟨rfl, hB6.trans (hb7.mono hB6.size)⟩
end Go.Proofs.Ytelfkopoppfaaaa
