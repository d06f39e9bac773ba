/- name.Less. -/
import Derived.Test.YtahpogbcodfdmaaNmLen
namespace Go.Proofs.Ytahpogbcodfdmaa
open Go Go.RowKit
set_option linter.unusedVariables false

/-- How two lists of signs stand. -/
def cmpS : List Nat → List Nat → Int
  | [], [] => 0
  | [], _ :: _ => -1
  | _ :: _, [] => 1
  | x :: xs, y :: ys => if x < y then -1 else if y < x then 1 else cmpS xs ys
def cmp1 (x y : Nat) : Int := if x < y then -1 else if y < x then 1 else 0

set_option maxHeartbeats 400000 in
theorem nan_any (x : Nat) (w : World) : Calls Try.prog 31 #[.int .i32 (x : Int)] w fun e w' => e = .returned (.bool false) ∧ w = w' := by
  go_enter Try.func31, Try.ntmps31
  go_wp2
  go_ret
  exact ⟨rfl, rfl⟩

set_option maxHeartbeats 400000 in
theorem compare_any (x y : Nat) (w : World) : Calls Try.prog 28 #[.int .i32 (x : Int), .int .i32 (y : Int)] w fun e w' => e = .returned (.int .i64 (cmp1 x y)) ∧ w = w' := by
  have hn := fun (x : Nat) w => nan_any x w
  by_cases h1 : x < y
  · have h1' : (x : Int) < (y : Int) := by omega
    rw [show cmp1 x y = -1 from by simp [cmp1, h1]]
    go_enter Try.func28, Try.ntmps28
    go_wp2_with (go_at_call 31; refine (hn _ _).mono ?_; rintro e w' ⟨rfl, rfl⟩)
    go_ret
    exact ⟨rfl, rfl⟩
  · have h1' : ¬ (x : Int) < (y : Int) := by omega
    by_cases h2 : y < x
    · have h2' : (y : Int) < (x : Int) := by omega
      rw [show cmp1 x y = 1 from by simp [cmp1, h1, h2]]
      go_enter Try.func28, Try.ntmps28
      go_wp2_with (go_at_call 31; refine (hn _ _).mono ?_; rintro e w' ⟨rfl, rfl⟩)
      go_ret
      exact ⟨rfl, rfl⟩
    · have h2' : ¬ (y : Int) < (x : Int) := by omega
      rw [show cmp1 x y = 0 from by simp [cmp1, h1, h2]]
      go_enter Try.func28, Try.ntmps28
      go_wp2_with (go_at_call 31; refine (hn _ _).mono ?_; rintro e w' ⟨rfl, rfl⟩)
      go_ret
      exact ⟨rfl, rfl⟩

set_option maxHeartbeats 400000 in
theorem less1_any (x y : Nat) (w : World) : Calls Try.prog 27 #[.int .i32 (x : Int), .int .i32 (y : Int)] w fun e w' => e = .returned (.int .i64 (cmp1 x y)) ∧ w = w' := by
  have hn := fun w => compare_any x y w
  go_enter Try.func27, Try.ntmps27
  go_wp2_with (go_at_call 28; refine (hn _).mono ?_; rintro e w' ⟨rfl, rfl⟩)
  go_ret
  exact ⟨rfl, rfl⟩

def encR (c : Nat) : List Value := [.int .i32 (c : Int)]
theorem encR_len : ∀ x : Nat, (encR x).length = 1 := fun _ => rfl

/-- Where the cells of runes lie. -/
theorem Sl.elem1 {w : World} {xs : List Nat} {A : Option Addr} {c : Nat} (h : Sl w 1 (.slice A xs.length c) xs.length (xs.flatMap encR)) (h0 : 0 < xs.length) :
    ∃ b o, A = some ⟨b, o, none⟩ ∧ b < w.heap.size ∧ ∀ j (hj : j < xs.length), w.cell? ⟨b, o + j, none⟩ = some (.int .i32 (xs[j] : Int)) := by
  have hA : ∃ a, A = some a := by
    rcases h.2 with ⟨h, h'⟩ | ⟨a, c, h, _⟩
    · omega
    · injection h with h; exact ⟨a, h⟩
  obtain ⟨⟨b, o, s⟩, rfl⟩ := hA
  have h2 := Sl.elem encR encR_len h
  obtain ⟨hs, hb, _⟩ := h2 w (Below.refl _ _) 0 h0
  simp only at hs hb
  subst hs
  exact ⟨b, o, rfl, hb, fun j hj => by simpa using (h2 w (Below.refl _ _) j hj).2.2 0 _ rfl⟩

theorem cmpS_cons (xs ys : List Nat) (k : Nat) (h1 : k < xs.length) (h2 : k < ys.length) (h : cmp1 xs[k] ys[k] = 0) : cmpS (xs.drop k) (ys.drop k) = cmpS (xs.drop (k + 1)) (ys.drop (k + 1)) := by
  rw [List.drop_eq_getElem_cons h1, List.drop_eq_getElem_cons h2]
  unfold cmp1 at h
  simp only [cmpS]
  split at h
  · cases h
  · rename_i h3
    split at h
    · cases h
    · rename_i h4
      rw [if_neg h3, if_neg h4]
theorem cmpS_ne (xs ys : List Nat) (k : Nat) (h1 : k < xs.length) (h2 : k < ys.length) (h : cmp1 xs[k] ys[k] ≠ 0) : cmpS (xs.drop k) (ys.drop k) = cmp1 xs[k] ys[k] := by
  rw [List.drop_eq_getElem_cons h1, List.drop_eq_getElem_cons h2]
  unfold cmp1 at *
  simp only [cmpS]
  split
  · rfl
  · rename_i h3
    rw [if_neg h3] at h
    split
    · rfl
    · rename_i h4
      rw [if_neg h4] at h
      exact absurd rfl h

set_option maxRecDepth 100000 in
set_option maxHeartbeats 4000000 in
theorem cmpfunc_any (v1 v2 : Value) (xs ys : List Nat) (w : World) (hv1 : Sl w 1 v1 xs.length (xs.flatMap encR)) (hv2 : Sl w 1 v2 ys.length (ys.flatMap encR)) :
    Calls Try.prog 26 #[v1, v2, .func (.func 27) #[] #[]] w fun e w' => e = .returned (.int .i64 (cmpS xs ys)) ∧ w = w' := by
  obtain ⟨A1, c1, rfl, hc1, hm1⟩ := hv1.form
  obtain ⟨A2, c2, rfl, hc2, hm2⟩ := hv2.form
  have HP1 := Lib.hid (fun h : 0 < xs.length => Sl.elem1 hv1 h)
  have HP2 := Lib.hid (fun h : 0 < ys.length => Sl.elem1 hv2 h)
  have eg : ∀ args w, (callFunc 27 args).run Try.prog w = .ok (.enter 27 args) w := enters_of Try.func27 (by kernel_rfl) rfl
  have hbig : xs.length ≤ 9223372036854775807 := by unfold maxLen at hm1; omega
  clear hv1 hv2 hc1 hc2 hm1 hm2
  obtain ⟨n, hn⟩ : ∃ n, xs.length = n := ⟨_, rfl⟩
  obtain ⟨m, hm⟩ : ∃ n, ys.length = n := ⟨_, rfl⟩
  rw [hn] at hbig ⊢
  rw [hm]
  have HN := Lib.hid hn
  have HM := Lib.hid hm
  clear hn hm
  go_enter Try.func26, Try.ntmps26
  go_wp2
  go_loopg [13] n (fun gg s13 wr => ∃ kk : Nat, kk ≤ n ∧ n - kk ≤ gg ∧ s13 = .int .i64 kk ∧ w = wr ∧ kk ≤ m ∧ Hid (cmpS (xs.drop kk) (ys.drop kk) = cmpS xs ys))
  case atStart => exact ⟨0, Nat.zero_le _, by omega, rfl, rfl, Nat.zero_le _, rfl⟩
  case round =>
    obtain ⟨kk, hkk, hg, rfl, hw, hkm, AA⟩ := hrel
    subst hw
    by_cases hlt : kk < n
    · have hltz : (kk : Int) < (n : Int) := by omega
      have hgez : (0 : Int) ≤ (kk : Int) := by omega
      have hk1 : kk < xs.length := by rw [HN.out]; exact hlt
      obtain ⟨b1, o1, rfl, hb1, he1⟩ := HP1.out (by omega)
      have x0 := he1 kk hk1
      clear he1 HP1
      by_cases hl2 : kk < m
      · have hl2z : (kk : Int) < (m : Int) := by omega
        have hk2 : kk < ys.length := by rw [HM.out]; exact hl2
        obtain ⟨b2, o2, rfl, hb2, he2⟩ := HP2.out (by omega)
        have y0 := he2 kk hk2
        clear he2 HP2
        have H0 := Lib.hid (cmpS_cons xs ys kk hk1 hk2)
        have H1 := Lib.hid (cmpS_ne xs ys kk hk1 hk2)
        have hle := fun w => less1_any xs[kk] ys[kk] w
        generalize xs[kk] = x at *
        generalize ys[kk] = y at *
        generalize hq : cmp1 x y = q at *
        cases h0 : (q == 0) with
        | true =>
          have H3 := Lib.hid ((H0.out (by simpa using h0)).symm.trans AA.out)
          obtain rfl : q = 0 := by simpa using h0
          clear H0 H1
          go_wp2_with (go_at_fn 27; refine (hle _).mono ?_; rintro e w' ⟨rfl, rfl⟩)
          go_roundg (n - (kk + 1))
          case measure => omega
          case rel => exact ⟨kk + 1, by omega, by omega, by go_num, rfl, by omega, H3.out⟩
        | false =>
          have h0' : (q != 0) = true := by simpa using h0
          have H2 := Lib.hid (show cmpS xs ys = q from AA.out.symm.trans (H1.out (by simpa using h0)))
          clear h0 hq
          go_wp2_with (go_at_fn 27; refine (hle _).mono ?_; rintro e w' ⟨rfl, rfl⟩)
          go_ret
          rw [H2.out]
          exact ⟨rfl, rfl⟩
      · have hl2z : ¬ (kk : Int) < (m : Int) := by omega
        have hl3z : (m : Int) ≤ (kk : Int) := by omega
        have H2 := Lib.hid (show cmpS xs ys = 1 from by
          rw [← AA.out, List.drop_eq_getElem_cons hk1, @List.drop_eq_nil_of_le _ ys _ (by rw [HM.out]; omega)]
          rfl)
        clear HP2
        generalize xs[kk] = x at *
        go_wp2
        go_ret
        rw [H2.out]
        exact ⟨rfl, rfl⟩
    · have hltz : ¬ (kk : Int) < (n : Int) := by omega
      have hxn : xs.drop kk = [] := List.drop_eq_nil_of_le (by rw [HN.out]; omega)
      clear HP1 HP2
      obtain rfl : n = kk := by omega
      by_cases hl2 : n < m
      · have hl2z : (n : Int) < (m : Int) := by omega
        have H2 := Lib.hid (show cmpS xs ys = -1 from by
          rw [← AA.out, hxn, List.drop_eq_getElem_cons (show n < ys.length by rw [HM.out]; exact hl2)]
          rfl)
        clear hxn
        go_wp2
        go_ret
        rw [H2.out]
        exact ⟨rfl, rfl⟩
      · have hl2z : ¬ (n : Int) < (m : Int) := by omega
        have H2 := Lib.hid (show cmpS xs ys = 0 from by
          rw [← AA.out, hxn, @List.drop_eq_nil_of_le _ ys _ (by rw [HM.out]; omega)]
          rfl)
        clear hxn
        go_wp2
        go_ret
        rw [H2.out]
        exact ⟨rfl, rfl⟩

/-- Is a name ahead of another one? -/
def ltN (a b : List UInt8) : Bool := decide (cmpS (signs a) (signs b) < 0)

theorem flat_runes (l : List Nat) : (l.map fun (c : Nat) => Value.int .i32 (c : Int)) = l.flatMap encR := by
  induction l with
  | nil => rfl
  | cons x l ih => rw [List.map_cons, ih]; rfl

theorem runes_all (s : ByteArray) : Conv.runesFrom s s.size 0 #[] = ((signs s.data.toList).flatMap encR).toArray := by
  rw [runes_signs s s.size 0 #[] (by omega), ← flat_runes]
  simp

theorem signs_small {s : ByteArray} (h : s.size ≤ 70368744177664) : (signs s.data.toList).length ≤ 70368744177664 := by
  have h1 := signs_length s.data.toList
  have h2 : s.data.toList.length = s.size := by rw [Array.length_toList]; rfl
  omega

/-- A slice of the first cells of a block that is known whole. -/
theorem sl_of_blk {W : World} {g n k c : Nat} {t : TypeId} {vs : List Value} {zs : Array Value} (hB : Blk W g t (vs.toArray ++ zs)) (hl : vs.length = n * k) (hn : n ≤ c) (hc : c ≤ maxLen) : Sl W k (.slice (some ⟨g, 0, none⟩) n c) n vs :=
  ⟨hl, .inr ⟨_, c, rfl, hn, hc, fun _ => ⟨rfl, hB.lt, fun j u hu => by
    rw [Nat.zero_add, hB.cell]
    have hj : j < vs.length := (List.getElem?_eq_some_iff.1 hu).1
    rw [Array.getElem?_append_left (by simpa using hj)]
    simpa using hu⟩⟩⟩

set_option maxRecDepth 100000 in
set_option maxHeartbeats 4000000 in
theorem NLess_any (a b : ByteArray) (w : World) (ha : a.size ≤ 70368744177664) (hb : b.size ≤ 70368744177664) :
    Calls Try.prog 17 #[.string a, .string b] w fun e w' => e = .returned (.bool (ltN a.data.toList b.data.toList)) ∧ Below w.heap.size w w' := by
  have la := signs_small ha
  have lb := signs_small hb
  have hfa := flat_len encR encR_len (signs a.data.toList)
  have hfb := flat_len encR encR_len (signs b.data.toList)
  have hca := fun W => run_runes_of_string (P := Try.prog) W 9 39 21 a Try.underlying9 Try.underlying39 Try.underlying21 (by rw [runes_all, List.size_toArray]; omega)
  have hcb := fun W => run_runes_of_string (P := Try.prog) W 9 39 21 b Try.underlying9 Try.underlying39 Try.underlying21 (by rw [runes_all, List.size_toArray]; omega)
  simp only [runes_all, List.size_toArray, hfa, hfb, Nat.mul_one] at hca hcb
  have hcf := fun v1 v2 W h1 h2 => cmpfunc_any v1 v2 (signs a.data.toList) (signs b.data.toList) W h1 h2
  unfold ltN
  generalize cmpS (signs a.data.toList) (signs b.data.toList) = q at *
  generalize signs a.data.toList = xs at *
  generalize signs b.data.toList = ys at *
  clear ha hb
  go_enter Try.func17, Try.ntmps17
  go_wp2_with fail
  have k1 := fun o => (Blk.new w 21 ((xs.flatMap encR).toArray ++ Array.replicate (grownCap w xs.length 0 21 - xs.length) (.int .i32 0))).alloc o
  have k2 := fun o cs => Blk.new_ (w.alloc o) 21 cs (w.heap.size + 1) (by simp)
  have m1 : xs.length ≤ maxLen := by unfold maxLen; omega
  have m2 : ys.length ≤ maxLen := by unfold maxLen; omega
  refine Calls.mono (hcf _ _ _ ?_ ?_) ?_
  · exact sl_of_blk (k1 _) (by rw [Nat.mul_one]; simpa using hfa) (grownCap_ge _ _ _ _) (grownCap_le_maxLen _ _ _ _ m1)
  · exact sl_of_blk (k2 _ _) (by rw [Nat.mul_one]; simpa using hfb) (grownCap_ge _ _ _ _) (grownCap_le_maxLen _ _ _ _ m2)
  rintro e w' ⟨rfl, rfl⟩
  go_wp2
  go_ret
  exact ⟨rfl, below_drewN (((Below.refl _ w).alloc (Nat.le_refl _) _).alloc (by simp) _) 2⟩
end Go.Proofs.Ytahpogbcodfdmaa
