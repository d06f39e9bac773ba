/- The document's letter, digit, May, Len, Less, walked. -/
import Derived.Test.YtahpogbcodfdmaaNmRefSigns
import Derived.Deep.QuietTactic
import Derived.BigQuiet
namespace Go.Proofs.Ytahpogbcodfdmaa
open Go Go.RowKit
set_option linter.unusedVariables false

theorem RowI.form {w : World} {base : Nat} {v : Value} {xs : List Nat} (h : RowI w base v xs) : ∃ A c, v = .slice A xs.length c := by
  obtain ⟨A, c, h, _⟩ := (Sl.of_own h).form
  exact ⟨A, c, h⟩
theorem RowI.elem {w : World} {base : Nat} {A : Option Addr} {c : Nat} {xs : List Nat} (h : RowI w base (.slice A xs.length c) xs) (h0 : 0 < xs.length) :
    ∃ g, A = some ⟨g, 0, none⟩ ∧ g < w.heap.size ∧ ∀ j (hj : j < xs.length), w.cell? ⟨g, j, none⟩ = some (.int .i64 (xs[j] : Int)) := by
  obtain ⟨g, cap, hv, hg, hb, hr⟩ := own_elem encI encI_len h 0 h0
  injection hv with hv _ hc
  subst hv
  refine ⟨g, rfl, hb, fun j hj => ?_⟩
  obtain ⟨g', cap', hv', _, _, _, _, hr', _⟩ := own_elem encI encI_len h j hj
  injection hv' with hv' _ _
  injection hv' with hv'
  injection hv' with hv' _ _
  subst hv'
  have := hr' 0 (.int .i64 (xs[j] : Int)) rfl
  simpa using this

set_option maxHeartbeats 400000 in
theorem rletter_any (c : Nat) (w : World) : Calls Try.prog 22 #[.int .i64 (c : Int)] w fun e w' => e = .returned (.bool (letterB c)) ∧ w = w' := by
  by_cases h1 : 97 ≤ c
  · by_cases h2 : c ≤ 122
    · have h1' : (97 : Int) ≤ (c : Int) := by omega
      have h2' : (c : Int) ≤ 122 := by omega
      rw [show letterB c = true from by simp [letterB, h1, h2]]
      go_enter Try.func22, Try.ntmps22
      go_wp2
      go_ret
      exact ⟨rfl, rfl⟩
    · have h1' : (97 : Int) ≤ (c : Int) := by omega
      have h2' : ¬ (c : Int) ≤ 122 := by omega
      by_cases h3 : 223 ≤ c
      · have h3' : (223 : Int) ≤ (c : Int) := by omega
        by_cases h4 : c ≤ 255
        · have h4' : (c : Int) ≤ 255 := by omega
          rw [show letterB c = ((c : Int) != 247) from by
            rw [Bool.eq_iff_iff]
            simp [letterB, h2, h3, h4]
            omega]
          go_enter Try.func22, Try.ntmps22
          go_wp2
          go_ret
          exact ⟨rfl, rfl⟩
        · have h4' : ¬ (c : Int) ≤ 255 := by omega
          rw [show letterB c = false from by simp [letterB, h2, h4]]
          go_enter Try.func22, Try.ntmps22
          go_wp2
          go_ret
          exact ⟨rfl, rfl⟩
      · have h3' : ¬ (223 : Int) ≤ (c : Int) := by omega
        rw [show letterB c = false from by simp [letterB, h2, h3]]
        go_enter Try.func22, Try.ntmps22
        go_wp2
        go_ret
        exact ⟨rfl, rfl⟩
  · have h1' : ¬ (97 : Int) ≤ (c : Int) := by omega
    have h3' : ¬ (223 : Int) ≤ (c : Int) := by omega
    rw [show letterB c = false from by simp [letterB, h1]; omega]
    go_enter Try.func22, Try.ntmps22
    go_wp2
    go_ret
    exact ⟨rfl, rfl⟩

set_option maxHeartbeats 400000 in
theorem rdigit_any (c : Nat) (w : World) : Calls Try.prog 23 #[.int .i64 (c : Int)] w fun e w' => e = .returned (.bool (digitB c)) ∧ w = w' := by
  by_cases h1 : 48 ≤ c
  · have h1' : (48 : Int) ≤ (c : Int) := by omega
    by_cases h2 : c ≤ 57
    · have h2' : (c : Int) ≤ 57 := by omega
      rw [show digitB c = true from by simp [digitB, h1, h2]]
      go_enter Try.func23, Try.ntmps23
      go_wp2
      go_ret
      exact ⟨rfl, rfl⟩
    · have h2' : ¬ (c : Int) ≤ 57 := by omega
      rw [show digitB c = false from by simp [digitB, h2]]
      go_enter Try.func23, Try.ntmps23
      go_wp2
      go_ret
      exact ⟨rfl, rfl⟩
  · have h1' : ¬ (48 : Int) ≤ (c : Int) := by omega
    rw [show digitB c = false from by simp [digitB, h1]]
    go_enter Try.func23, Try.ntmps23
    go_wp2
    go_ret
    exact ⟨rfl, rfl⟩

theorem okS_drop {f : Bool} {xs : List Nat} {k : Nat} (hk : k < xs.length) : okS f (xs.drop k) = ((letterB xs[k] || (!f && digitB xs[k])) && okS false (xs.drop (k + 1))) := by
  rw [List.drop_eq_getElem_cons hk]; rfl

/-- Is it a name? Of its signs. -/
def mayS (xs : List Nat) : Bool := okS true xs && (decide (1 ≤ xs.length) && decide (xs.length ≤ 8))
theorem mayS_eq (l : List UInt8) : mayS (signs l) = mayN l := by
  rw [Bool.eq_iff_iff, mayN_iff]
  unfold mayS isN
  rw [Bool.and_eq_true, Bool.and_eq_true, decide_eq_true_eq, decide_eq_true_eq, ← List.length_pos_iff]
  exact Iff.rfl

set_option maxRecDepth 100000 in
set_option maxHeartbeats 4000000 in
theorem rmay_any (s : ByteArray) (w : World) (hs : s.size ≤ 400) : Calls Try.prog 12 #[.string s] w fun e w' => e = .returned (.bool (mayN s.data.toList)) ∧ Below w.heap.size w w' := by
  have csg := fun w => Signs_any s w hs
  have hln := signs_length s.data.toList
  rw [size_list] at hln
  rw [← mayS_eq]
  unfold SignsPost at csg
  generalize signs s.data.toList = xs at *
  have hx4 : xs.length ≤ 400 := by omega
  clear hs hln
  go_enter Try.func12, Try.ntmps12
  go_wp2_with fail
  refine (csg _).mono ?_
  rintro e w1 ⟨v, rfl, hrow, hb⟩
  clear csg
  obtain ⟨A, c, rfl⟩ := hrow.form
  have HR := Lib.hid (fun h => hrow.elem h)
  clear hrow
  obtain ⟨n, hn⟩ : ∃ n, xs.length = n := ⟨_, rfl⟩
  have HN := Lib.hid hn
  rw [hn] at hx4 ⊢
  clear hn
  go_wp2_with fail
  go_loop [4] (fun i => ∃ k : Nat, k ≤ n ∧ i = .int .i64 k ∧ Hid (okS (k == 0) (xs.drop k) = okS true xs)) (fun i => n - (intOf i).toNat)
  case atStart => exact ⟨0, Nat.zero_le _, rfl, rfl⟩
  case round =>
    obtain ⟨k, hk, rfl, HO⟩ := hrel
    by_cases hlt : k < n
    · have hkx : k < xs.length := by rw [HN.out]; exact hlt
      obtain ⟨g, rfl, hg, hel⟩ := HR.out (by omega)
      have e0 := hel k hkx
      have HD := Lib.hid ((okS_drop (f := (k == 0)) hkx).symm.trans HO.out)
      have HK1 := Lib.hid (show ((k + 1 : Nat) == 0) = false by simp)
      clear hel
      have hle := fun w => rletter_any xs[k] w
      have hdi := fun w => rdigit_any xs[k] w
      generalize xs[k] = x at *
      cases hL : letterB x with
      | true =>
        rw [hL] at hle
        have HL := Lib.hid hL
        clear hL
        go_wp2_with (first | (go_at_call 22; refine (hle _).mono ?_; rintro e w' ⟨rfl, rfl⟩) | (go_at_call 23; refine (hdi _).mono ?_; rintro e w' ⟨rfl, rfl⟩))
        go_round
        case measure => simp [intOf]; omega
        case rel =>
          refine ⟨k + 1, by omega, by go_num, ?_⟩
          show _ = _
          rw [HK1.out, ← HD.out, HL.out]
          rfl
      | false =>
        rw [hL] at hle
        have HL := Lib.hid hL
        clear hL
        by_cases h0 : k = 0
        · subst h0
          have HF := Lib.hid (show okS true xs = false from by rw [← HD.out, HL.out]; rfl)
          cases hDD : digitB x
          all_goals
            rw [hDD] at hdi
            clear hDD
            go_wp2_with (first | (go_at_call 22; refine (hle _).mono ?_; rintro e w' ⟨rfl, rfl⟩) | (go_at_call 23; refine (hdi _).mono ?_; rintro e w' ⟨rfl, rfl⟩))
            go_ret
            exact ⟨by rw [show mayS xs = false from by unfold mayS; rw [HF.out]; rfl]; rfl, hb⟩
        · have h0' : ((k : Int) == 0) = false := by simp; omega
          have h00 : (k == 0) = false := by simp; omega
          rw [h00] at HD
          clear h0 h00
          cases hDD : digitB x with
          | true =>
            rw [hDD] at hdi
            have HDD := Lib.hid hDD
            clear hDD
            go_wp2_with (first | (go_at_call 22; refine (hle _).mono ?_; rintro e w' ⟨rfl, rfl⟩) | (go_at_call 23; refine (hdi _).mono ?_; rintro e w' ⟨rfl, rfl⟩))
            go_round
            case measure => simp [intOf]; omega
            case rel =>
              refine ⟨k + 1, by omega, by go_num, ?_⟩
              show _ = _
              rw [HK1.out, ← HD.out, HL.out, HDD.out]
              rfl
          | false =>
            have HF := Lib.hid (show okS true xs = false from by rw [← HD.out, HL.out, hDD]; rfl)
            rw [hDD] at hdi
            clear hDD
            go_wp2_with (first | (go_at_call 22; refine (hle _).mono ?_; rintro e w' ⟨rfl, rfl⟩) | (go_at_call 23; refine (hdi _).mono ?_; rintro e w' ⟨rfl, rfl⟩))
            go_ret
            exact ⟨by rw [show mayS xs = false from by unfold mayS; rw [HF.out]; rfl]; rfl, hb⟩
    · have HT := Lib.hid (show okS true xs = true from by
        rw [← HO.out, List.drop_eq_nil_of_le (by rw [HN.out]; omega)]; rfl)
      have HM := Lib.hid (show mayS xs = (decide (1 ≤ n) && decide (n ≤ 8)) from by unfold mayS; rw [HT.out, HN.out]; rfl)
      clear HO HR
      by_cases q1 : 1 ≤ n
      · have q1' : (1 : Int) ≤ (n : Int) := by omega
        by_cases q2 : n ≤ 8
        · have q2' : (n : Int) ≤ 8 := by omega
          go_wp2
          go_ret
          exact ⟨by rw [HM.out, decide_eq_true q1, decide_eq_true q2]; rfl, hb⟩
        · have q2' : ¬ (n : Int) ≤ 8 := by omega
          go_wp2
          go_ret
          exact ⟨by rw [HM.out, decide_eq_false q2, Bool.and_false]; rfl, hb⟩
      · have q1' : ¬ (1 : Int) ≤ (n : Int) := by omega
        go_wp2
        go_ret
        exact ⟨by rw [HM.out, decide_eq_false q1, Bool.false_and]; rfl, hb⟩

set_option maxHeartbeats 1000000 in
theorem rlen_any (s : ByteArray) (w : World) (hs : s.size ≤ 400) : Calls Try.prog 16 #[.string s] w fun e w' => e = .returned (.int .i64 (lenN s.data.toList : Nat)) ∧ Below w.heap.size w w' := by
  have cm := fun w => rmay_any s w hs
  have csg := fun w => Signs_any s w hs
  unfold SignsPost at csg
  cases hm : mayN s.data.toList with
  | false =>
    rw [hm] at cm
    rw [lenN_not (fun h => by rw [← mayN_iff, hm] at h; cases h)]
    clear hm csg
    go_enter Try.func16, Try.ntmps16
    go_wp2_with fail
    refine (cm _).mono ?_
    rintro e w1 ⟨rfl, hb⟩
    go_wp2
    go_ret
    exact ⟨rfl, hb⟩
  | true =>
    rw [hm] at cm
    rw [lenN_of (mayN_iff.1 hm)]
    clear hm
    generalize signs s.data.toList = xs at *
    go_enter Try.func16, Try.ntmps16
    go_wp2_with fail
    refine (cm _).mono ?_
    rintro e w1 ⟨rfl, hb⟩
    go_wp2_with fail
    refine (csg _).mono ?_
    rintro e w2 ⟨v, rfl, hrow, hb2⟩
    obtain ⟨A, c, rfl⟩ := hrow.form
    clear hrow
    go_wp2
    go_ret
    exact ⟨rfl, hb.trans (hb2.mono hb.size)⟩

set_option maxRecDepth 100000 in
set_option maxHeartbeats 4000000 in
theorem rless_any (a b : ByteArray) (w : World) (ha : a.size ≤ 400) (hb0 : b.size ≤ 400) : Calls Try.prog 13 #[.string a, .string b] w fun e w' => e = .returned (.bool (ltN a.data.toList b.data.toList)) ∧ Below w.heap.size w w' := by
  have ca := fun w => Signs_any a w ha
  have cb := fun w => Signs_any b w hb0
  have la := signs_length a.data.toList
  have lb := signs_length b.data.toList
  rw [size_list] at la lb
  unfold SignsPost at ca cb
  unfold ltN
  generalize signs a.data.toList = xs at *
  generalize signs b.data.toList = ys at *
  have hx4 : xs.length ≤ 400 := by omega
  have hy4 : ys.length ≤ 400 := by omega
  clear ha hb0 la lb
  go_enter Try.func13, Try.ntmps13
  go_wp2_with fail
  refine (ca _).mono ?_
  rintro e w1 ⟨v1, rfl, hrow1, hb1⟩
  clear ca
  obtain ⟨A, c, rfl⟩ := hrow1.form
  go_wp2_with fail
  refine (cb _).mono ?_
  rintro e w2 ⟨v2, rfl, hrow2, hb2⟩
  clear cb
  obtain ⟨A2, c2, rfl⟩ := hrow2.form
  replace hrow1 := hrow1.keep hb2
  have hY := hb1.trans (hb2.mono hb1.size)
  have HR1 := Lib.hid (fun h => hrow1.elem h)
  have HR2 := Lib.hid (fun h => hrow2.elem h)
  clear hrow1 hrow2 hb1 hb2
  obtain ⟨n, hn⟩ : ∃ n, xs.length = n := ⟨_, rfl⟩
  obtain ⟨m, hm⟩ : ∃ n, ys.length = n := ⟨_, rfl⟩
  have HN := Lib.hid hn
  have HM := Lib.hid hm
  rw [hn] at hx4 ⊢
  rw [hm] at hy4 ⊢
  clear hn hm
  go_wp2_with fail
  go_loopg [7] n (fun gg i wr => ∃ k q : Nat, k ≤ n ∧ n - k ≤ gg ∧ wr = w2.drewN q ∧ k ≤ m ∧ i = .int .i64 k ∧ Hid (cmpS (xs.drop k) (ys.drop k) = cmpS xs ys))
  case atStart => exact ⟨0, 0, Nat.zero_le _, Nat.le_refl _, rfl, Nat.zero_le _, rfl, rfl⟩
  case round =>
    obtain ⟨k, q, hk, hgg, rfl, hkm, rfl, AA⟩ := hrel
    by_cases hlt : k < n
    · by_cases hl2 : k < m
      · have hk1 : k < xs.length := by rw [HN.out]; exact hlt
        have hk2 : k < ys.length := by rw [HM.out]; exact hl2
        obtain ⟨g1, rfl, hg1, hel1⟩ := HR1.out (by omega)
        obtain ⟨g2, rfl, hg2, hel2⟩ := HR2.out (by omega)
        have e1 := hel1 k hk1
        have e2 := hel2 k hk2
        have H0 := Lib.hid (cmpS_cons xs ys k hk1 hk2)
        have H1 := Lib.hid (cmpS_ne xs ys k hk1 hk2)
        have q1 : (0 : Int) ≤ (k : Int) := by omega
        have q2 : (k : Int) < (n : Int) := by omega
        have q3 : (k : Int) < (m : Int) := by omega
        clear hel1 hel2 HR1 HR2
        generalize xs[k] = x at *
        generalize ys[k] = y at *
        by_cases hxy : x = y
        · subst hxy
          have H3 := Lib.hid ((H0.out (by simp [cmp1])).symm.trans AA.out)
          clear H0 H1 AA
          go_wp2_with fail
          go_quiet (fail)
          go_wp2
          go_roundg (n - (k + 1))
          case measure => omega
          case rel => exact ⟨k + 1, q + nq, by omega, by omega, rfl, by omega, by go_num, H3.out⟩
        · have hne : ((x : Int) != (y : Int)) = true := by simp; omega
          have hne2 : ((x : Int) == (y : Int)) = false := by simp; omega
          have HC := Lib.hid (show cmpS xs ys = cmp1 x y from AA.out.symm.trans (H1.out (by unfold cmp1; split; decide; split; decide; omega)))
          clear H0 H1 AA
          have HL := Lib.hid (show decide (cmpS xs ys < 0) = decide (x < y) from by
            rw [HC.out]; unfold cmp1
            by_cases h : x < y
            · rw [if_pos h, decide_eq_true h]; rfl
            · rw [if_neg h, decide_eq_false h, if_pos (by omega)]; rfl)
          clear HC
          by_cases hxl : x < y
          · have hxl' : (x : Int) < (y : Int) := by omega
            go_wp2_with fail
            go_quiet (fail)
            go_wp2_with fail
            go_quiet (fail)
            go_wp2
            go_ret
            exact ⟨by rw [HL.out, decide_eq_true hxl]; rfl, below_drewN (below_drewN (below_drewN hY _) _) _⟩
          · have hxl' : ¬ (x : Int) < (y : Int) := by omega
            go_wp2_with fail
            go_quiet (fail)
            go_wp2_with fail
            go_quiet (fail)
            go_wp2
            go_ret
            exact ⟨by rw [HL.out, decide_eq_false hxl]; rfl, below_drewN (below_drewN (below_drewN hY _) _) _⟩
      · have hl2z : ¬ (k : Int) < (m : Int) := by omega
        have hk1 : k < xs.length := by rw [HN.out]; exact hlt
        have HC := Lib.hid (show cmpS xs ys = 1 from by
          rw [← AA.out, List.drop_eq_getElem_cons hk1, @List.drop_eq_nil_of_le _ ys _ (by rw [HM.out]; omega)]
          rfl)
        have hnm : ¬ (n : Int) < (m : Int) := by omega
        clear HR1 HR2
        go_wp2
        go_ret
        exact ⟨by rw [HC.out]; rfl, below_drewN hY _⟩
    · have hxn : xs.drop k = [] := List.drop_eq_nil_of_le (by rw [HN.out]; omega)
      clear HR1 HR2
      by_cases hl2 : k < m
      · have HC := Lib.hid (show cmpS xs ys = -1 from by
          rw [← AA.out, hxn, List.drop_eq_getElem_cons (show k < ys.length by rw [HM.out]; exact hl2)]
          rfl)
        have hnm : (n : Int) < (m : Int) := by omega
        clear hxn
        go_wp2
        go_ret
        exact ⟨by rw [HC.out]; rfl, below_drewN hY _⟩
      · have HC := Lib.hid (show cmpS xs ys = 0 from by
          rw [← AA.out, hxn, @List.drop_eq_nil_of_le _ ys _ (by rw [HM.out]; omega)]
          rfl)
        have hnm : ¬ (n : Int) < (m : Int) := by omega
        clear hxn
        go_wp2
        go_ret
        exact ⟨by rw [HC.out]; rfl, below_drewN hY _⟩
end Go.Proofs.Ytahpogbcodfdmaa
