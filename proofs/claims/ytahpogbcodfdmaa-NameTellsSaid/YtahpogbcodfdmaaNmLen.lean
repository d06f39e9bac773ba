/- name.letter, digit, Len, May. -/
import Derived.Test.YtahpogbcodfdmaaProg
import Derived.Test.YtahpogbcodfdmaaWords
import Derived.Test.YtahpogbcodfdmaaNmSigns
import Derived.Laws.RangeString
namespace Go.Proofs.Ytahpogbcodfdmaa
open Go Go.RowKit
set_option linter.unusedVariables false

def letterB (c : Nat) : Bool := (decide (97 ≤ c) && decide (c ≤ 122)) || (decide (223 ≤ c) && (decide (c ≤ 255) && c != 247))
def digitB (c : Nat) : Bool := decide (48 ≤ c) && decide (c ≤ 57)

set_option maxHeartbeats 400000 in
theorem letter_any (c : Nat) (w : World) : Calls Try.prog 24 #[.int .i32 (c : Int)] w fun e w' => e = .returned (.bool (letterB c)) ∧ w = w' := by
  by_cases h1 : 97 ≤ c
  · by_cases h2 : c ≤ 122
    · have h1' : (97 : Int) ≤ (c : Int) := by omega
      have h2' : (c : Int) ≤ 122 := by omega
      rw [show letterB c = true from by simp [letterB, h1, h2]]
      go_enter Try.func24, Try.ntmps24
      go_wp2
      go_ret
      exact ⟨rfl, rfl⟩
    · have h1' : (97 : Int) ≤ (c : Int) := by omega
      have h2' : ¬ (c : Int) ≤ 122 := by omega
      by_cases h3 : 223 ≤ c
      · have h3' : (223 : Int) ≤ (c : Int) := by omega
        by_cases h4 : c ≤ 255
        · have h4' : (c : Int) ≤ 255 := by omega
          rw [show letterB c = ((c : Int) != 247) from by
            rw [Bool.eq_iff_iff]
            simp [letterB, h2, h3, h4]
            omega]
          go_enter Try.func24, Try.ntmps24
          go_wp2
          go_ret
          exact ⟨rfl, rfl⟩
        · have h4' : ¬ (c : Int) ≤ 255 := by omega
          rw [show letterB c = false from by simp [letterB, h2, h4]]
          go_enter Try.func24, Try.ntmps24
          go_wp2
          go_ret
          exact ⟨rfl, rfl⟩
      · have h3' : ¬ (223 : Int) ≤ (c : Int) := by omega
        rw [show letterB c = false from by simp [letterB, h2, h3]]
        go_enter Try.func24, Try.ntmps24
        go_wp2
        go_ret
        exact ⟨rfl, rfl⟩
  · have h1' : ¬ (97 : Int) ≤ (c : Int) := by omega
    have h3' : ¬ (223 : Int) ≤ (c : Int) := by omega
    rw [show letterB c = false from by simp [letterB, h1]; omega]
    go_enter Try.func24, Try.ntmps24
    go_wp2
    go_ret
    exact ⟨rfl, rfl⟩

set_option maxHeartbeats 400000 in
theorem digit_any (c : Nat) (w : World) : Calls Try.prog 25 #[.int .i32 (c : Int)] w fun e w' => e = .returned (.bool (digitB c)) ∧ w = w' := by
  by_cases h1 : 48 ≤ c
  · have h1' : (48 : Int) ≤ (c : Int) := by omega
    by_cases h2 : c ≤ 57
    · have h2' : (c : Int) ≤ 57 := by omega
      rw [show digitB c = true from by simp [digitB, h1, h2]]
      go_enter Try.func25, Try.ntmps25
      go_wp2
      go_ret
      exact ⟨rfl, rfl⟩
    · have h2' : ¬ (c : Int) ≤ 57 := by omega
      rw [show digitB c = false from by simp [digitB, h2]]
      go_enter Try.func25, Try.ntmps25
      go_wp2
      go_ret
      exact ⟨rfl, rfl⟩
  · have h1' : ¬ (48 : Int) ≤ (c : Int) := by omega
    rw [show digitB c = false from by simp [digitB, h1]]
    go_enter Try.func25, Try.ntmps25
    go_wp2
    go_ret
    exact ⟨rfl, rfl⟩

/-- Is each sign a name's, the first one no digit? -/
def okS (first : Bool) : List Nat → Bool
  | [] => true
  | c :: l => (letterB c || (!first && digitB c)) && okS false l

/-- How many signs a name has. -/
def lenN (l : List UInt8) : Nat := if okS true (signs l) = true ∧ (signs l).length ≤ 8 then (signs l).length else 0

theorem runes_drop {s : ByteArray} {pos : Nat} (h : pos < s.size) : 0 < (s.data.toList.drop pos).length := by
  have : s.size = s.data.size := rfl
  rw [List.length_drop, Array.length_toList]
  omega

set_option maxRecDepth 100000 in
set_option maxHeartbeats 4000000 in
theorem Len_any (s : ByteArray) (w : World) (hs : s.size ≤ 9223372036854775807) :
    Calls Try.prog 15 #[.string s] w fun e w' => e = .returned (.int .i64 (lenN s.data.toList)) ∧ Below w.heap.size w w' := by
  have hsz : s.size = s.data.toList.length := by rw [Array.length_toList]; rfl
  have HB := Lib.hid (fun p => show Below w.heap.size w (w.iter s p) from (Below.refl _ w).alloc (Nat.le_refl _) _)
  have hlen := signs_length s.data.toList
  have HSZ := Lib.hid hsz
  have HLEN := Lib.hid hlen
  clear hsz hlen
  go_enter Try.func15, Try.ntmps15
  go_wp2
  go_loopg [3] s.size (fun gg s3 wr => ∃ pos n : Nat, wr = w.iter s pos ∧ s3 = .int .i64 n ∧ pos ≤ s.size ∧ s.size - pos ≤ gg ∧ n + (signs (s.data.toList.drop pos)).length = (signs s.data.toList).length ∧ Hid (okS (pos == 0) (signs (s.data.toList.drop pos)) = okS true (signs s.data.toList)))
  case atStart => exact ⟨0, 0, rfl, rfl, Nat.zero_le _, Nat.le_refl _, by simp, by simp [Hid]⟩
  case round =>
    obtain ⟨pos, n, rfl, rfl, hp, hg, hn, hok⟩ := hrel
    have hnb : n ≤ s.size := by have := HLEN.out; have := HSZ.out; omega
    by_cases hlt : pos < s.size
    · have hl := runes_drop hlt
      have hw := dec_width _ hl
      have hsig := signs_cons _ hl
      rw [List.drop_drop] at hsig
      have hdd := decode_dec s pos
      obtain ⟨⟨c, wd⟩, hd⟩ : ∃ d, dec (s.data.toList.drop pos) = d := ⟨_, rfl⟩
      rw [hd] at hw hsig hdd
      simp only at hw hsig
      have hnx : ∀ ty, (Instr.next (.pointer (some ⟨w.heap.size, 0, none⟩)) true ty).run Try.prog (w.iter s pos) = .ok (.tuple #[.bool true, .int .i64 pos, .int .i32 c]) (w.iter s (pos + wd)) := fun ty => by
        have := run_next_any (P := Try.prog) w s pos ty hlt
        rwa [hdd] at this
      have hle := fun w => letter_any c w
      have hdi := fun w => digit_any c w
      have HOK := hok.out
      rw [hsig] at HOK hn
      simp only [okS, List.length_cons] at HOK hn
      have HH := Lib.hid HOK
      have hn1 : n < s.size := by have := HLEN.out; have := HSZ.out; omega
      have hpw : pos + wd ≤ s.size := by have := HSZ.out; rw [List.length_drop] at hw; omega
      have hw1 := hw.1
      clear hsig hdd hd hl hw HOK hok
      cases hL : letterB c with
      | true =>
        rw [hL] at hle
        have HL := Lib.hid hL
        clear hL
        go_wp2_with (first | (go_at_call 24; refine (hle _).mono ?_; rintro e w' ⟨rfl, rfl⟩) | (go_at_call 25; refine (hdi _).mono ?_; rintro e w' ⟨rfl, rfl⟩))
        go_roundg (s.size - (pos + wd))
        case measure => omega
        case rel =>
          refine ⟨pos + wd, n + 1, rfl, by go_num, hpw, Nat.le_refl _, by omega, (show _ = _ from ?_)⟩
          rw [show (pos + wd == 0) = false from by simp; omega]
          rw [← HH.out, HL.out]
          simp
      | false =>
        rw [hL] at hle
        have HL := Lib.hid hL
        clear hL
        by_cases h0 : pos = 0
        · subst h0
          go_wp2_with (first | (go_at_call 24; refine (hle _).mono ?_; rintro e w' ⟨rfl, rfl⟩) | (go_at_call 25; refine (hdi _).mono ?_; rintro e w' ⟨rfl, rfl⟩))
          go_ret
          refine ⟨?_, (HB.out _)⟩
          rw [show lenN s.data.toList = 0 from by
            unfold lenN
            rw [← HH.out, HL.out]
            simp]
          rfl
        · have h0' : ((pos : Int) == 0) = false := by simp; omega
          have h00 : (pos == 0) = false := by simp; omega
          rw [h00] at HH
          clear h0 h00
          cases hD : digitB c with
          | true =>
            rw [hD] at hdi
            have HD := Lib.hid hD
            clear hD
            go_wp2_with (first | (go_at_call 24; refine (hle _).mono ?_; rintro e w' ⟨rfl, rfl⟩) | (go_at_call 25; refine (hdi _).mono ?_; rintro e w' ⟨rfl, rfl⟩))
            go_roundg (s.size - (pos + wd))
            case measure => omega
            case rel =>
              refine ⟨pos + wd, n + 1, rfl, by go_num, hpw, Nat.le_refl _, by omega, (show _ = _ from ?_)⟩
              rw [show (pos + wd == 0) = false from by simp; omega]
              rw [← HH.out, HL.out]
              simp [HD.out]
          | false =>
            rw [hD] at hdi
            have HD := Lib.hid hD
            clear hD
            go_wp2_with (first | (go_at_call 24; refine (hle _).mono ?_; rintro e w' ⟨rfl, rfl⟩) | (go_at_call 25; refine (hdi _).mono ?_; rintro e w' ⟨rfl, rfl⟩))
            go_ret
            refine ⟨?_, (HB.out _)⟩
            rw [show lenN s.data.toList = 0 from by
              unfold lenN
              rw [← HH.out, HL.out]
              simp [HD.out]]
            rfl
    · have hpe : pos = s.size := by omega
      subst hpe
      have hnx : ∀ ty, (Instr.next (.pointer (some ⟨w.heap.size, 0, none⟩)) true ty).run Try.prog (w.iter s s.size) = _ := fun ty => run_next_end w s s.size ty hlt
      have hd0 : s.data.toList.drop s.size = [] := List.drop_eq_nil_of_le (by rw [HSZ.out]; exact Nat.le_refl _)
      rw [hd0, signs_nil] at hn hok
      have HOK : Hid (okS true (signs s.data.toList) = true) := hok.out.symm
      have HN : Hid ((signs s.data.toList).length = n) := by simpa [Hid] using hn.symm
      clear hn hok hd0 hp hg
      by_cases h8 : n ≤ 8
      · have h8' : ¬ (8 : Int) < (n : Int) := by omega
        go_wp2
        go_ret
        refine ⟨?_, HB.out _⟩
        rw [show lenN s.data.toList = n from by unfold lenN; rw [if_pos ⟨HOK.out, by rw [HN.out]; exact h8⟩, HN.out]]
        rfl
      · have h8' : (8 : Int) < (n : Int) := by omega
        go_wp2
        go_ret
        refine ⟨?_, HB.out _⟩
        rw [show lenN s.data.toList = 0 from by unfold lenN; rw [if_neg (fun h => h8 (by rw [← HN.out]; exact h.2))]]
        rfl

def mayN (l : List UInt8) : Bool := decide (0 < lenN l)

set_option maxHeartbeats 400000 in
theorem nmay_any (s : ByteArray) (w : World) (hs : s.size ≤ 9223372036854775807) :
    Calls Try.prog 14 #[.string s] w fun e w' => e = .returned (.bool (mayN s.data.toList)) ∧ Below w.heap.size w w' := by
  have hl := Len_any s w hs
  unfold mayN
  generalize lenN s.data.toList = n at *
  by_cases h : 0 < n
  · have h' : (0 : Int) < (n : Int) := by omega
    rw [decide_eq_true h]
    go_enter Try.func14, Try.ntmps14
    go_wp2_with (go_at_call 15; refine hl.mono ?_; rintro e w' ⟨rfl, hb⟩)
    go_ret
    exact ⟨rfl, hb⟩
  · obtain rfl : n = 0 := by omega
    go_enter Try.func14, Try.ntmps14
    go_wp2_with (go_at_call 15; refine hl.mono ?_; rintro e w' ⟨rfl, hb⟩)
    go_ret
    exact ⟨rfl, hb⟩
end Go.Proofs.Ytahpogbcodfdmaa
