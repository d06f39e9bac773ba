/- The walk of NameDot. -/
import Derived.Test.YtahpogbcodfdmaaNmAwake
import Derived.Test.YtahpogbcodfdmaaNmPlain2
namespace Go.Proofs.Ytahpogbcodfdmaa
open Go Go.RowKit
set_option linter.unusedVariables false

/-- How many points there are. -/
def dots (l : List UInt8) : Nat := (l.filter (· == 46)).length
theorem dots_snoc (s : ByteArray) (k : Nat) (h : k < s.size) : dots (s.data.toList.take (k + 1)) = dots (s.data.toList.take k) + if (s[k].toNat : Int) == 46 then 1 else 0 := by
  have e : s.data.toList.take (k + 1) = s.data.toList.take k ++ [s[k]] := by
    rw [List.take_succ_eq_append_getElem (by rw [size_list]; exact h)]; rfl
  unfold dots
  rw [e, List.filter_append, List.length_append]
  have e2 : (s[k] == 46) = ((s[k].toNat : Int) == 46) := by
    rw [Bool.eq_iff_iff, beq_iff_eq, beq_iff_eq]
    constructor
    · intro h; rw [h]; rfl
    · intro h; have := u8_of (b := s[k]) (c := 46) (by omega); simpa using this
  by_cases h2 : ((s[k].toNat : Int) == 46) = true
  · rw [if_pos h2]; simp [List.filter_cons, e2, h2]
  · rw [if_neg h2]; simp [List.filter_cons, e2, h2]
theorem dots_le (l : List UInt8) : dots l ≤ l.length := List.length_filter_le _ _
theorem dots_none {l : List UInt8} (h : (46 : UInt8) ∉ l) : dots l = 0 := by
  unfold dots
  rw [List.length_eq_zero_iff, List.filter_eq_nil_iff]
  intro x hx h2
  rw [beq_iff_eq] at h2
  exact h (h2 ▸ hx)
theorem dots_split {s : ByteArray} (h : splitB s = true) : dots s.data.toList = 1 := by
  obtain ⟨h1, h2, h3, _⟩ := split_parts h
  have e : s.data.toList = (splitL s).data.toList ++ 46 :: (splitR s).data.toList := by rw [← joined_list, ← h3]
  have a := dots_none (name_no_dot h1)
  have b := dots_none (name_no_dot h2)
  unfold dots at *
  rw [e, List.filter_append, List.length_append, List.filter_cons, if_pos (by rfl), List.length_cons, a, b]

set_option maxRecDepth 100000 in
set_option maxHeartbeats 4000000 in
theorem dot_long (s : ByteArray) (hs : 200 < s.size) (w : World) :
    Calls Try.prog 8 #[.string s] w fun e w' => e = .returned (.bool true) ∧ Below w.heap.size w w' := by
  have hs' : (200 : Int) < (s.size : Int) := by omega
  go_enter Try.func8, Try.ntmps8
  go_wp2_with fail
  refine (awake_any _).mono ?_
  rintro e w1 ⟨rfl, hb⟩
  go_wp2
  go_ret
  exact ⟨rfl, hb⟩

set_option maxRecDepth 100000 in
set_option maxHeartbeats 4000000 in
theorem dot_main (s : ByteArray) (hs : s.size ≤ 200) (w : World) (p q : ByteArray) (m z : Bool)
    (hm : m = true → dots s.data.toList = 0) (hz : z = true → dots s.data.toList = 1)
    (cs : ∀ W : World, Calls Try.prog 10 #[.string s] W fun e w' => e = .returned (.tuple #[.string p, .string q, .bool z]) ∧ Below W.heap.size W w')
    (cm : ∀ W : World, Calls Try.prog 14 #[.string s] W fun e w' => e = .returned (.bool m) ∧ Below W.heap.size W w') :
    Calls Try.prog 8 #[.string s] w fun e w' => e = .returned (.bool true) ∧ Below w.heap.size w w' := by
  have hs' : ¬ (200 : Int) < (s.size : Int) := by omega
  have HM := Lib.hid hm
  have HZ := Lib.hid hz
  clear hm hz
  go_enter Try.func8, Try.ntmps8
  go_wp2_with fail
  refine (awake_any _).mono ?_
  rintro e w1 ⟨rfl, hb⟩
  go_wp2_with fail
  go_loop [4, 5] (fun n i => ∃ k : Nat, k ≤ s.size ∧ i = .int .i64 k ∧ n = .int .i64 (dots (s.data.toList.take k))) (fun _ i => s.size - (intOf i).toNat)
  case atStart => exact ⟨0, Nat.zero_le _, rfl, rfl⟩
  case round =>
    obtain ⟨k, hk, rfl, rfl⟩ := hrel
    have hl := dots_le (s.data.toList.take k)
    rw [List.length_take] at hl
    by_cases hlt : k < s.size
    · have HS := Lib.hid (dots_snoc s k hlt)
      by_cases hc : ((s[k].toNat : Int) == 46) = true
      · go_wp2
        go_round
        case rel => exact ⟨k + 1, by omega, by go_num, by rw [HS.out, if_pos hc]; go_num⟩
        case measure => simp [intOf]; omega
      · rw [Bool.not_eq_true] at hc
        go_wp2
        go_round
        case rel => exact ⟨k + 1, by omega, by go_num, by rw [HS.out, if_neg (by rw [hc]; simp)]; go_num⟩
        case measure => simp [intOf]; omega
    · have HK := Lib.hid (show s.data.toList.take k = s.data.toList from List.take_of_length_le (by rw [size_list]; omega))
      have HN := Lib.hid (congrArg dots HK.out)
      generalize dots (s.data.toList.take k) = n at *
      cases m
      · cases z
        · go_wp2_with fail
          refine (cs _).mono ?_
          rintro e w2 ⟨rfl, hb2⟩
          go_wp2_with fail
          refine (cm _).mono ?_
          rintro e w3 ⟨rfl, hb3⟩
          go_wp2
          go_ret
          have h2 := hb.trans (hb2.mono hb.size)
          exact ⟨rfl, h2.trans (hb3.mono h2.size)⟩
        · obtain rfl : n = 1 := HN.out.trans (HZ.out rfl)
          go_wp2_with fail
          refine (cs _).mono ?_
          rintro e w2 ⟨rfl, hb2⟩
          go_wp2_with fail
          refine (cm _).mono ?_
          rintro e w3 ⟨rfl, hb3⟩
          go_wp2
          go_ret
          have h2 := hb.trans (hb2.mono hb.size)
          exact ⟨rfl, h2.trans (hb3.mono h2.size)⟩
      · obtain rfl : n = 0 := HN.out.trans (HM.out rfl)
        obtain rfl : z = false := by
          cases z
          · rfl
          · have := HM.out rfl; have := HZ.out rfl; omega
        go_wp2_with fail
        refine (cs _).mono ?_
        rintro e w2 ⟨rfl, hb2⟩
        go_wp2_with fail
        refine (cm _).mono ?_
        rintro e w3 ⟨rfl, hb3⟩
        go_wp2
        go_ret
        have h2 := hb.trans (hb2.mono hb.size)
        exact ⟨rfl, h2.trans (hb3.mono h2.size)⟩

theorem nameDot_walk (w : World) (s : ByteArray) (ws : s.size ≤ maxLen) :
    Calls Try.prog 8 #[.string s] w fun e w' => e = .returned (.bool true) ∧ Below w.heap.size w w' := by
  by_cases hs : 200 < s.size
  · exact dot_long s hs w
  · exact dot_main s (by omega) w _ _ _ _ (fun h => dots_none (name_no_dot h)) dots_split (fun W => Split_any s W (by omega)) (fun W => nmay_any s W (by omega))
end Go.Proofs.Ytahpogbcodfdmaa
