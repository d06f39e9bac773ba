/- The walk of PageNew. -/
import Derived.Test.YtelfkopoppfaaaaPgAwake
import Derived.Test.YtelfkopoppfaaaaPgOpen
namespace Go.Proofs.Ytelfkopoppfaaaa
open Go Go.RowKit

def onePg : Pg := ⟨1, 0, 0, 0, 0⟩

theorem new_none (i : Nat) : idxF freeP (List.replicate i onePg) = -1 :=
  idxF_miss _ _ fun j h => by simp [freeP, onePg]

theorem new_may (room : Int) (i : Nat) (h0 : 0 ≤ room) (h1 : room ≤ 12) (hi : (i : Int) ≤ room) : mayP room (List.replicate i onePg) = true := by
  have : (List.replicate i onePg).any oddP = false := by
    rw [List.any_eq_false]
    intro x hx
    rw [(List.mem_replicate.1 hx).2]
    decide
  simp [mayP, h0, h1, hi, this]

theorem new_step (room : Int) (i : Nat) (h0 : 0 ≤ room) (h1 : room ≤ 12) (hi : (i : Int) < room) : allocX room (List.replicate i onePg) = ((i : Int), 0, List.replicate (i + 1) onePg) := by
  have hne : ¬ (i : Int) = room := by omega
  rw [allocX, if_pos (new_may room i h0 h1 (by omega)), allocL, if_pos (new_none i), List.length_replicate, if_neg hne]
  rw [List.replicate_succ']
  rfl

theorem new_full (room : Int) (i : Nat) (h0 : 0 ≤ room) (h1 : room ≤ 12) (hi : (i : Int) = room) : allocX room (List.replicate i onePg) = (-1, 8, List.replicate i onePg) := by
  rw [allocX, if_pos (new_may room i h0 h1 (by omega)), allocL, if_pos (new_none i), List.length_replicate, if_pos hi]

theorem new_used (room : Int) (i : Nat) (h0 : 0 ≤ room) (h1 : room ≤ 12) (hi : (i : Int) = room) : usedL room (List.replicate i onePg) = i := by
  rw [usedL, if_pos (new_may room i h0 h1 (by omega)), usedN]
  have : (List.replicate i onePg).filter (fun p => !freeP p) = List.replicate i onePg := by
    rw [List.filter_eq_self]
    intro x hx
    rw [(List.mem_replicate.1 hx).2]
    rfl
  rw [this, List.length_replicate]

set_option maxRecDepth 100000 in
set_option maxHeartbeats 2000000 in
theorem pageNew_walk (w : World) (a0 : Int) (_w0 : (Lit.int .i64 a0).wf = true) :
    Calls Try.prog 3 #[.int .i64 a0] w fun e w' => e = .returned (.bool true) ∧ Below w.heap.size w w' := by

  by_cases hno : a0 < 0 ∨ 12 < a0
  · have hnew := fun W => New_no a0 W hno
    rcases hno with h | h
    · go_enter Try.func3, Try.ntmps3
      go_wp2_with fail
      refine (awake_any w).mono ?_
      rintro e w1 ⟨rfl, hb1⟩
      go_wp2_with fail
      refine (hnew w1).mono ?_
      rintro e w2 ⟨v2, rfl, hst2, hb2⟩
      obtain ⟨A2, c2, rfl, hst2⟩ := hst2.form
      go_wp2
      go_ret
      exact ⟨rfl, (hb1.trans (hb2.mono hb1.size)).alloc (by have := hb1.size; have := hb2.size; omega) _⟩
    · have h0 : ¬ a0 < 0 := by omega
      go_enter Try.func3, Try.ntmps3
      go_wp2_with fail
      refine (awake_any w).mono ?_
      rintro e w1 ⟨rfl, hb1⟩
      go_wp2_with fail
      refine (hnew w1).mono ?_
      rintro e w2 ⟨v2, rfl, hst2, hb2⟩
      obtain ⟨A2, c2, rfl, hst2⟩ := hst2.form
      go_wp2
      go_ret
      exact ⟨rfl, (hb1.trans (hb2.mono hb1.size)).alloc (by have := hb1.size; have := hb2.size; omega) _⟩
  · have h0 : 0 ≤ a0 := by omega
    have h1 : a0 ≤ 12 := by omega
    clear hno
    go_enter Try.func3, Try.ntmps3
    go_wp2_with fail
    refine (awake_any w).mono ?_
    rintro e w1 ⟨rfl, hb1⟩
    go_wp2_with fail
    refine (New_yes a0 w1 h0 h1).mono ?_
    rintro e w2 ⟨v2, rfl, hst2, hb2⟩
    obtain ⟨A2, c2, rfl, hst2⟩ := hst2.form
    simp only [List.length_nil] at hst2 ⊢
    go_wp2_with fail
    obtain ⟨r, rfl⟩ := Int.eq_ofNat_of_zero_le h0
    have hB2 := (hb1.trans (hb2.mono hb1.size)).alloc (by have := hb1.size; have := hb2.size; omega) (.cells #[.int .i64 (r : Int), .slice A2 0 c2] 25)
    have hst2' := hst2.below ((Below.refl _ _).alloc (Nat.le_refl _) (.cells #[.int .i64 (r : Int), .slice A2 0 c2] 25))
    have hblk2 := Blk.new w2 25 #[.int .i64 (r : Int), .slice A2 0 c2]
    have hw2 : w.heap.size ≤ w2.heap.size := by have := hb1.size; have := hb2.size; omega
    obtain ⟨B, hB⟩ : ∃ B, w2.heap.size = B := ⟨_, rfl⟩
    rw [hB] at hw2 hblk2 ⊢
    obtain ⟨w3, hw3⟩ : ∃ w3, w2.alloc (.cells #[.int .i64 (r : Int), .slice A2 0 c2] 25) = w3 := ⟨_, rfl⟩
    rw [hw3] at hB2 hst2' hblk2 ⊢
    clear hst2 hb1 hb2 hB hw3
    go_loopg [6, 7] r (fun gg s6 s7 wr => ∃ (k c : Nat) (A : Option Addr), k ≤ r ∧ r - k ≤ gg ∧ s6 = .int .i64 k ∧ s7 = .int .i64 k ∧ Hid (Blk wr B 25 #[.int .i64 (r : Int), .slice A k c]) ∧ Hid (StV wr (.agg #[.int .i64 (r : Int), .slice A k c]) r (List.replicate k onePg)) ∧ Hid (Below w.heap.size w wr))
    case atStart => exact ⟨0, c2, A2, Nat.zero_le _, by omega, rfl, rfl, hblk2, hst2', hB2⟩
    case round =>
      obtain ⟨k, c, A, hk, hg, rfl, rfl, HB, HS, HW⟩ := hrel
      have d0 := HB.out.cell 0
      have d1 := HB.out.cell 1
      have hlt := HB.out.lt
      have hf0 := HB.out.free 0
      have hf1 := HB.out.free 1
      simp at d0 d1
      by_cases hkr : k < r
      · have hltz : (k : Int) < (r : Int) := by omega
        have hal := Alloc_any _ _ _ wr HS.out (by simp; omega)
        rw [new_step r k h0 h1 hltz] at hal
        go_wp2_with fail
        refine hal.mono ?_
        rintro e w4 ⟨v4, rfl, hst4, hb4, hfr⟩
        obtain ⟨A4, c4, rfl, hst4⟩ := hst4.form
        simp only [List.length_replicate] at hst4 hfr ⊢
        have e0 := (hb4.cell (p := ⟨B, 0, none⟩) hlt).trans d0
        have e1 := (hb4.cell (p := ⟨B, 1, none⟩) hlt).trans d1
        have g0 := (hb4.frozen (p := ⟨B, 0, none⟩) hlt).trans hf0
        have g1 := (hb4.frozen (p := ⟨B, 1, none⟩) hlt).trans hf1
        have hz4 := hb4.size
        have hB4 : B < w4.heap.size := by omega
        clear d0 d1 hf0 hf1
        have hbk4 := HB.out.below hb4 hlt
        have hst5 := StV.setCell (StV.setCell hst4 hfr (p := ⟨B, 0, none⟩) hlt (.int .i64 r)) hfr (p := ⟨B, 1, none⟩) hlt (.slice A4 (k + 1) c4)
        have HS5 := Lib.hid hst5
        have HK4 := Lib.hid hbk4
        clear hst5 hbk4 hst4
        go_wp2
        go_roundg (r - (k + 1))
        case measure => omega
        case rel =>
          refine ⟨k + 1, c4, A4, by omega, by omega, by go_num, by go_num, ?_, ?_, ?_⟩
          · exact ((HK4.out.set_ 0 _).set_ 1 _).alloc _
          · exact HS5.out.below ((Below.refl _ _).alloc (Nat.le_refl _) _)
          · have hW4 := HW.out.trans (hb4.mono HW.out.size)
            exact ((hW4.setCell (p := ⟨B, 0, none⟩) hw2 _).setCell (p := ⟨B, 1, none⟩) hw2 _).alloc (by have := hW4.size; simpa [World.setCell] using this) _
      · have hltz : ¬ (k : Int) < (r : Int) := by omega
        obtain rfl : k = r := by omega
        have hal := Alloc_any _ _ _ wr HS.out (by simp; omega)
        rw [new_full k k h0 h1 rfl] at hal
        have hus := fun W hb => Used_any _ _ _ W (HS.out.below hb)
        rw [new_used k k h0 h1 rfl] at hus
        have hma := fun W hb => may_any (k : Int) _ _ W (HS.out.below hb).sl
        rw [new_may k k h0 h1 (Int.le_refl _)] at hma
        go_wp2_with fail
        refine hal.mono ?_
        rintro e w4 ⟨v4, rfl, hst4, hb4, -⟩
        obtain ⟨A4, c4, rfl, -⟩ := hst4.form
        simp only [List.length_replicate]
        have e0 := (hb4.cell (p := ⟨B, 0, none⟩) hlt).trans d0
        have e1 := (hb4.cell (p := ⟨B, 1, none⟩) hlt).trans d1
        have hz4 := hb4.size
        have hB4 : B < w4.heap.size := by omega
        have hb5 := hb4.alloc hz4 (.cells #[.int .i64 (k : Int), .slice A4 k c4] 25)
        go_wp2_with fail
        refine (hus _ hb5).mono ?_
        rintro e w5 ⟨rfl, hb6⟩
        obtain ⟨hc6, -⟩ := bcell hb6
        have hb7 := hb5.trans (hb6.mono hb5.size)
        go_wp2_with fail
        refine (hma _ hb7).mono ?_
        rintro e w6 ⟨rfl, hb8⟩
        go_wp2
        go_ret
        have hb9 := hb7.trans (hb8.mono hb7.size)
        exact ⟨rfl, HW.out.trans (hb9.mono HW.out.size)⟩
end Go.Proofs.Ytelfkopoppfaaaa
