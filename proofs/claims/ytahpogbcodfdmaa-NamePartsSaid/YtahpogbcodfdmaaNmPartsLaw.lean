/- The walk of NameParts. -/
import Derived.Test.YtahpogbcodfdmaaNmAwake
import Derived.Test.YtahpogbcodfdmaaNmPlain2
namespace Go.Proofs.Ytahpogbcodfdmaa
open Go Go.RowKit
set_option linter.unusedVariables false

set_option maxRecDepth 100000 in
set_option maxHeartbeats 4000000 in
theorem parts_n (a b : ByteArray) (k : Int) (n m : Nat) (c2 : ∀ W : World, Calls Try.prog 15 #[.string a] W fun e w' => e = .returned (.int .i64 (n : Nat)) ∧ Below W.heap.size W w')(c3 : ∀ W : World, Calls Try.prog 15 #[.string b] W fun e w' => e = .returned (.int .i64 (m : Nat)) ∧ Below W.heap.size W w')(h : n = 0) (w : World) :
    Calls Try.prog 6 #[.string a, .string b, .int .i64 k] w fun e w' => e = .returned (.bool true) ∧ Below w.heap.size w w' := by
  subst h
  go_enter Try.func6, Try.ntmps6
  have hY0 := Below.refl w.heap.size w
  go_wp2_with fail
  refine (awake_any _).mono ?_
  rintro e w1 ⟨rfl, hb⟩
  replace hY0 := hY0.trans (hb.mono hY0.size)
  clear hb
  go_wp2_with fail
  refine (c2 _).mono ?_
  rintro e w2 ⟨rfl, hb⟩
  replace hY0 := hY0.trans (hb.mono hY0.size)
  clear hb
  go_wp2_with fail
  refine (c3 _).mono ?_
  rintro e w3 ⟨rfl, hb⟩
  replace hY0 := hY0.trans (hb.mono hY0.size)
  clear hb
  go_wp2
  go_ret
  exact ⟨rfl, hY0⟩

set_option maxRecDepth 100000 in
set_option maxHeartbeats 4000000 in
theorem parts_m (a b : ByteArray) (k : Int) (n m : Nat) (c2 : ∀ W : World, Calls Try.prog 15 #[.string a] W fun e w' => e = .returned (.int .i64 (n : Nat)) ∧ Below W.heap.size W w')(c3 : ∀ W : World, Calls Try.prog 15 #[.string b] W fun e w' => e = .returned (.int .i64 (m : Nat)) ∧ Below W.heap.size W w')(hn : 0 < n) (h : m = 0) (w : World) :
    Calls Try.prog 6 #[.string a, .string b, .int .i64 k] w fun e w' => e = .returned (.bool true) ∧ Below w.heap.size w w' := by
  subst h
  have hn0 : ((n : Int) == 0) = false := by simp; omega
  go_enter Try.func6, Try.ntmps6
  have hY0 := Below.refl w.heap.size w
  go_wp2_with fail
  refine (awake_any _).mono ?_
  rintro e w1 ⟨rfl, hb⟩
  replace hY0 := hY0.trans (hb.mono hY0.size)
  clear hb
  go_wp2_with fail
  refine (c2 _).mono ?_
  rintro e w2 ⟨rfl, hb⟩
  replace hY0 := hY0.trans (hb.mono hY0.size)
  clear hb
  go_wp2_with fail
  refine (c3 _).mono ?_
  rintro e w3 ⟨rfl, hb⟩
  replace hY0 := hY0.trans (hb.mono hY0.size)
  clear hb
  go_wp2
  go_ret
  exact ⟨rfl, hY0⟩

set_option maxRecDepth 100000 in
set_option maxHeartbeats 4000000 in
theorem parts8_low (a b : ByteArray) (k : Int) (n m : Nat) (c2 : ∀ W : World, Calls Try.prog 15 #[.string a] W fun e w' => e = .returned (.int .i64 (n : Nat)) ∧ Below W.heap.size W w')(c3 : ∀ W : World, Calls Try.prog 15 #[.string b] W fun e w' => e = .returned (.int .i64 (m : Nat)) ∧ Below W.heap.size W w')(hn : 0 < n) (hm : 0 < m) (hn8 : n ≤ 8) (hm8 : m ≤ 8) (ha : a.size ≤ 16) (hb : b.size ≤ 16) (hna : n ≤ a.size) (h8 : n + m ≤ 8)(c4 : ∀ W : World, Calls Try.prog 14 #[.string (a ++ b)] W fun e w' => e = .returned (.bool true) ∧ Below W.heap.size W w')(c5 : ∀ W : World, Calls Try.prog 15 #[.string (a ++ b)] W fun e w' => e = .returned (.int .i64 (n + m : Nat)) ∧ Below W.heap.size W w')(hk : k < 1) (w : World) :
    Calls Try.prog 6 #[.string a, .string b, .int .i64 k] w fun e w' => e = .returned (.bool true) ∧ Below w.heap.size w w' := by
  have hn0 : ((n : Int) == 0) = false := by simp; omega
  have hm0 : ((m : Int) == 0) = false := by simp; omega
  have hna' : ¬ (a.size : Int) < (n : Int) := by omega
  have e0 : ∀ W, (Op.stringOp .add a b).run Try.prog W = .ok (.string (a ++ b)) W := fun W => run_string_add_sum W a b (by omega)
  generalize a ++ b = ab at *
  have h8' : (n : Int) + (m : Int) ≤ 8 := by omega
  push_cast at c5
  go_enter Try.func6, Try.ntmps6
  have hY0 := Below.refl w.heap.size w
  go_wp2_with fail
  refine (awake_any _).mono ?_
  rintro e w1 ⟨rfl, hb⟩
  replace hY0 := hY0.trans (hb.mono hY0.size)
  clear hb
  go_wp2_with fail
  refine (c2 _).mono ?_
  rintro e w2 ⟨rfl, hb⟩
  replace hY0 := hY0.trans (hb.mono hY0.size)
  clear hb
  go_wp2_with fail
  refine (c3 _).mono ?_
  rintro e w3 ⟨rfl, hb⟩
  replace hY0 := hY0.trans (hb.mono hY0.size)
  clear hb
  go_wp2_with fail
  refine (c4 _).mono ?_
  rintro e w4 ⟨rfl, hb⟩
  replace hY0 := hY0.trans (hb.mono hY0.size)
  clear hb
  go_wp2_with fail
  refine (c4 _).mono ?_
  rintro e w5 ⟨rfl, hb⟩
  replace hY0 := hY0.trans (hb.mono hY0.size)
  clear hb
  go_wp2_with fail
  refine (c5 _).mono ?_
  rintro e w6 ⟨rfl, hb⟩
  replace hY0 := hY0.trans (hb.mono hY0.size)
  clear hb
  go_wp2
  go_ret
  exact ⟨rfl, hY0⟩

set_option maxRecDepth 100000 in
set_option maxHeartbeats 4000000 in
theorem parts8_high (a b : ByteArray) (k : Int) (n m : Nat) (c2 : ∀ W : World, Calls Try.prog 15 #[.string a] W fun e w' => e = .returned (.int .i64 (n : Nat)) ∧ Below W.heap.size W w')(c3 : ∀ W : World, Calls Try.prog 15 #[.string b] W fun e w' => e = .returned (.int .i64 (m : Nat)) ∧ Below W.heap.size W w')(hn : 0 < n) (hm : 0 < m) (hn8 : n ≤ 8) (hm8 : m ≤ 8) (ha : a.size ≤ 16) (hb : b.size ≤ 16) (hna : n ≤ a.size) (h8 : n + m ≤ 8)(c4 : ∀ W : World, Calls Try.prog 14 #[.string (a ++ b)] W fun e w' => e = .returned (.bool true) ∧ Below W.heap.size W w')(c5 : ∀ W : World, Calls Try.prog 15 #[.string (a ++ b)] W fun e w' => e = .returned (.int .i64 (n + m : Nat)) ∧ Below W.heap.size W w')(hk : ¬ k < 1) (hk2 : (a.size : Int) ≤ k) (w : World) :
    Calls Try.prog 6 #[.string a, .string b, .int .i64 k] w fun e w' => e = .returned (.bool true) ∧ Below w.heap.size w w' := by
  have hn0 : ((n : Int) == 0) = false := by simp; omega
  have hm0 : ((m : Int) == 0) = false := by simp; omega
  have hna' : ¬ (a.size : Int) < (n : Int) := by omega
  have e0 : ∀ W, (Op.stringOp .add a b).run Try.prog W = .ok (.string (a ++ b)) W := fun W => run_string_add_sum W a b (by omega)
  generalize a ++ b = ab at *
  have h8' : (n : Int) + (m : Int) ≤ 8 := by omega
  push_cast at c5
  go_enter Try.func6, Try.ntmps6
  have hY0 := Below.refl w.heap.size w
  go_wp2_with fail
  refine (awake_any _).mono ?_
  rintro e w1 ⟨rfl, hb⟩
  replace hY0 := hY0.trans (hb.mono hY0.size)
  clear hb
  go_wp2_with fail
  refine (c2 _).mono ?_
  rintro e w2 ⟨rfl, hb⟩
  replace hY0 := hY0.trans (hb.mono hY0.size)
  clear hb
  go_wp2_with fail
  refine (c3 _).mono ?_
  rintro e w3 ⟨rfl, hb⟩
  replace hY0 := hY0.trans (hb.mono hY0.size)
  clear hb
  go_wp2_with fail
  refine (c4 _).mono ?_
  rintro e w4 ⟨rfl, hb⟩
  replace hY0 := hY0.trans (hb.mono hY0.size)
  clear hb
  go_wp2_with fail
  refine (c4 _).mono ?_
  rintro e w5 ⟨rfl, hb⟩
  replace hY0 := hY0.trans (hb.mono hY0.size)
  clear hb
  go_wp2_with fail
  refine (c5 _).mono ?_
  rintro e w6 ⟨rfl, hb⟩
  replace hY0 := hY0.trans (hb.mono hY0.size)
  clear hb
  go_wp2
  go_ret
  exact ⟨rfl, hY0⟩

set_option maxRecDepth 100000 in
set_option maxHeartbeats 4000000 in
theorem parts8_mid (a b : ByteArray) (k : Int) (n m : Nat) (c2 : ∀ W : World, Calls Try.prog 15 #[.string a] W fun e w' => e = .returned (.int .i64 (n : Nat)) ∧ Below W.heap.size W w')(c3 : ∀ W : World, Calls Try.prog 15 #[.string b] W fun e w' => e = .returned (.int .i64 (m : Nat)) ∧ Below W.heap.size W w')(hn : 0 < n) (hm : 0 < m) (hn8 : n ≤ 8) (hm8 : m ≤ 8) (ha : a.size ≤ 16) (hb : b.size ≤ 16) (hna : n ≤ a.size) (h8 : n + m ≤ 8)(c4 : ∀ W : World, Calls Try.prog 14 #[.string (a ++ b)] W fun e w' => e = .returned (.bool true) ∧ Below W.heap.size W w')(c5 : ∀ W : World, Calls Try.prog 15 #[.string (a ++ b)] W fun e w' => e = .returned (.int .i64 (n + m : Nat)) ∧ Below W.heap.size W w')(j : Nat) (hk : 1 ≤ j) (hj : j < a.size) (hkj : (j : Int) = k) (h1 : 128 ≤ (a[j].toNat : Int)) (h2 : (a[j].toNat : Int) < 192) (w : World) :
    Calls Try.prog 6 #[.string a, .string b, .int .i64 k] w fun e w' => e = .returned (.bool true) ∧ Below w.heap.size w w' := by
  have hn0 : ((n : Int) == 0) = false := by simp; omega
  have hm0 : ((m : Int) == 0) = false := by simp; omega
  have hna' : ¬ (a.size : Int) < (n : Int) := by omega
  have e0 : ∀ W, (Op.stringOp .add a b).run Try.prog W = .ok (.string (a ++ b)) W := fun W => run_string_add_sum W a b (by omega)
  generalize a ++ b = ab at *
  have h8' : (n : Int) + (m : Int) ≤ 8 := by omega
  push_cast at c5
  subst hkj
  have hk2 : ¬ (a.size : Int) ≤ (j : Int) := by omega
  go_enter Try.func6, Try.ntmps6
  have hY0 := Below.refl w.heap.size w
  go_wp2_with fail
  refine (awake_any _).mono ?_
  rintro e w1 ⟨rfl, hb⟩
  replace hY0 := hY0.trans (hb.mono hY0.size)
  clear hb
  go_wp2_with fail
  refine (c2 _).mono ?_
  rintro e w2 ⟨rfl, hb⟩
  replace hY0 := hY0.trans (hb.mono hY0.size)
  clear hb
  go_wp2_with fail
  refine (c3 _).mono ?_
  rintro e w3 ⟨rfl, hb⟩
  replace hY0 := hY0.trans (hb.mono hY0.size)
  clear hb
  go_wp2_with fail
  refine (c4 _).mono ?_
  rintro e w4 ⟨rfl, hb⟩
  replace hY0 := hY0.trans (hb.mono hY0.size)
  clear hb
  go_wp2_with fail
  refine (c4 _).mono ?_
  rintro e w5 ⟨rfl, hb⟩
  replace hY0 := hY0.trans (hb.mono hY0.size)
  clear hb
  go_wp2_with fail
  refine (c5 _).mono ?_
  rintro e w6 ⟨rfl, hb⟩
  replace hY0 := hY0.trans (hb.mono hY0.size)
  clear hb
  go_wp2
  go_ret
  exact ⟨rfl, hY0⟩

set_option maxRecDepth 100000 in
set_option maxHeartbeats 4000000 in
theorem parts8_lo (a b : ByteArray) (k : Int) (n m : Nat) (c2 : ∀ W : World, Calls Try.prog 15 #[.string a] W fun e w' => e = .returned (.int .i64 (n : Nat)) ∧ Below W.heap.size W w')(c3 : ∀ W : World, Calls Try.prog 15 #[.string b] W fun e w' => e = .returned (.int .i64 (m : Nat)) ∧ Below W.heap.size W w')(hn : 0 < n) (hm : 0 < m) (hn8 : n ≤ 8) (hm8 : m ≤ 8) (ha : a.size ≤ 16) (hb : b.size ≤ 16) (hna : n ≤ a.size) (h8 : n + m ≤ 8)(c4 : ∀ W : World, Calls Try.prog 14 #[.string (a ++ b)] W fun e w' => e = .returned (.bool true) ∧ Below W.heap.size W w')(c5 : ∀ W : World, Calls Try.prog 15 #[.string (a ++ b)] W fun e w' => e = .returned (.int .i64 (n + m : Nat)) ∧ Below W.heap.size W w')(j r : Nat) (hk : 1 ≤ j) (hj : j < a.size) (hkj : (j : Int) = k) (hr : r < n) (d1 : ∀ W : World, Calls Try.prog 14 #[.string (a.extract 0 j)] W fun e w' => e = .returned (.bool true) ∧ Below W.heap.size W w')(d2 : ∀ W : World, Calls Try.prog 15 #[.string (a.extract 0 j)] W fun e w' => e = .returned (.int .i64 (r : Nat)) ∧ Below W.heap.size W w')(h1 : ¬ 128 ≤ (a[j].toNat : Int)) (w : World) :
    Calls Try.prog 6 #[.string a, .string b, .int .i64 k] w fun e w' => e = .returned (.bool true) ∧ Below w.heap.size w w' := by
  have hn0 : ((n : Int) == 0) = false := by simp; omega
  have hm0 : ((m : Int) == 0) = false := by simp; omega
  have hna' : ¬ (a.size : Int) < (n : Int) := by omega
  have e0 : ∀ W, (Op.stringOp .add a b).run Try.prog W = .ok (.string (a ++ b)) W := fun W => run_string_add_sum W a b (by omega)
  generalize a ++ b = ab at *
  have h8' : (n : Int) + (m : Int) ≤ 8 := by omega
  push_cast at c5
  subst hkj
  have hk2 : ¬ (a.size : Int) ≤ (j : Int) := by omega
  have hr' : (r : Int) < (n : Int) := by omega
  go_enter Try.func6, Try.ntmps6
  have hY0 := Below.refl w.heap.size w
  go_wp2_with fail
  refine (awake_any _).mono ?_
  rintro e w1 ⟨rfl, hb⟩
  replace hY0 := hY0.trans (hb.mono hY0.size)
  clear hb
  go_wp2_with fail
  refine (c2 _).mono ?_
  rintro e w2 ⟨rfl, hb⟩
  replace hY0 := hY0.trans (hb.mono hY0.size)
  clear hb
  go_wp2_with fail
  refine (c3 _).mono ?_
  rintro e w3 ⟨rfl, hb⟩
  replace hY0 := hY0.trans (hb.mono hY0.size)
  clear hb
  go_wp2_with fail
  refine (c4 _).mono ?_
  rintro e w4 ⟨rfl, hb⟩
  replace hY0 := hY0.trans (hb.mono hY0.size)
  clear hb
  go_wp2_with fail
  refine (c4 _).mono ?_
  rintro e w5 ⟨rfl, hb⟩
  replace hY0 := hY0.trans (hb.mono hY0.size)
  clear hb
  go_wp2_with fail
  refine (c5 _).mono ?_
  rintro e w6 ⟨rfl, hb⟩
  replace hY0 := hY0.trans (hb.mono hY0.size)
  clear hb
  go_wp2_with fail
  refine (d1 _).mono ?_
  rintro e w7 ⟨rfl, hb⟩
  replace hY0 := hY0.trans (hb.mono hY0.size)
  clear hb
  go_wp2_with fail
  refine (d2 _).mono ?_
  rintro e w8 ⟨rfl, hb⟩
  replace hY0 := hY0.trans (hb.mono hY0.size)
  clear hb
  go_wp2
  go_ret
  exact ⟨rfl, hY0⟩

set_option maxRecDepth 100000 in
set_option maxHeartbeats 4000000 in
theorem parts8_hi (a b : ByteArray) (k : Int) (n m : Nat) (c2 : ∀ W : World, Calls Try.prog 15 #[.string a] W fun e w' => e = .returned (.int .i64 (n : Nat)) ∧ Below W.heap.size W w')(c3 : ∀ W : World, Calls Try.prog 15 #[.string b] W fun e w' => e = .returned (.int .i64 (m : Nat)) ∧ Below W.heap.size W w')(hn : 0 < n) (hm : 0 < m) (hn8 : n ≤ 8) (hm8 : m ≤ 8) (ha : a.size ≤ 16) (hb : b.size ≤ 16) (hna : n ≤ a.size) (h8 : n + m ≤ 8)(c4 : ∀ W : World, Calls Try.prog 14 #[.string (a ++ b)] W fun e w' => e = .returned (.bool true) ∧ Below W.heap.size W w')(c5 : ∀ W : World, Calls Try.prog 15 #[.string (a ++ b)] W fun e w' => e = .returned (.int .i64 (n + m : Nat)) ∧ Below W.heap.size W w')(j r : Nat) (hk : 1 ≤ j) (hj : j < a.size) (hkj : (j : Int) = k) (hr : r < n) (d1 : ∀ W : World, Calls Try.prog 14 #[.string (a.extract 0 j)] W fun e w' => e = .returned (.bool true) ∧ Below W.heap.size W w')(d2 : ∀ W : World, Calls Try.prog 15 #[.string (a.extract 0 j)] W fun e w' => e = .returned (.int .i64 (r : Nat)) ∧ Below W.heap.size W w')(h1 : 128 ≤ (a[j].toNat : Int)) (h2 : ¬ (a[j].toNat : Int) < 192) (w : World) :
    Calls Try.prog 6 #[.string a, .string b, .int .i64 k] w fun e w' => e = .returned (.bool true) ∧ Below w.heap.size w w' := by
  have hn0 : ((n : Int) == 0) = false := by simp; omega
  have hm0 : ((m : Int) == 0) = false := by simp; omega
  have hna' : ¬ (a.size : Int) < (n : Int) := by omega
  have e0 : ∀ W, (Op.stringOp .add a b).run Try.prog W = .ok (.string (a ++ b)) W := fun W => run_string_add_sum W a b (by omega)
  generalize a ++ b = ab at *
  have h8' : (n : Int) + (m : Int) ≤ 8 := by omega
  push_cast at c5
  subst hkj
  have hk2 : ¬ (a.size : Int) ≤ (j : Int) := by omega
  have hr' : (r : Int) < (n : Int) := by omega
  go_enter Try.func6, Try.ntmps6
  have hY0 := Below.refl w.heap.size w
  go_wp2_with fail
  refine (awake_any _).mono ?_
  rintro e w1 ⟨rfl, hb⟩
  replace hY0 := hY0.trans (hb.mono hY0.size)
  clear hb
  go_wp2_with fail
  refine (c2 _).mono ?_
  rintro e w2 ⟨rfl, hb⟩
  replace hY0 := hY0.trans (hb.mono hY0.size)
  clear hb
  go_wp2_with fail
  refine (c3 _).mono ?_
  rintro e w3 ⟨rfl, hb⟩
  replace hY0 := hY0.trans (hb.mono hY0.size)
  clear hb
  go_wp2_with fail
  refine (c4 _).mono ?_
  rintro e w4 ⟨rfl, hb⟩
  replace hY0 := hY0.trans (hb.mono hY0.size)
  clear hb
  go_wp2_with fail
  refine (c4 _).mono ?_
  rintro e w5 ⟨rfl, hb⟩
  replace hY0 := hY0.trans (hb.mono hY0.size)
  clear hb
  go_wp2_with fail
  refine (c5 _).mono ?_
  rintro e w6 ⟨rfl, hb⟩
  replace hY0 := hY0.trans (hb.mono hY0.size)
  clear hb
  go_wp2_with fail
  refine (d1 _).mono ?_
  rintro e w7 ⟨rfl, hb⟩
  replace hY0 := hY0.trans (hb.mono hY0.size)
  clear hb
  go_wp2_with fail
  refine (d2 _).mono ?_
  rintro e w8 ⟨rfl, hb⟩
  replace hY0 := hY0.trans (hb.mono hY0.size)
  clear hb
  go_wp2
  go_ret
  exact ⟨rfl, hY0⟩

set_option maxRecDepth 100000 in
set_option maxHeartbeats 4000000 in
theorem parts9_low (a b : ByteArray) (k : Int) (n m : Nat) (c2 : ∀ W : World, Calls Try.prog 15 #[.string a] W fun e w' => e = .returned (.int .i64 (n : Nat)) ∧ Below W.heap.size W w')(c3 : ∀ W : World, Calls Try.prog 15 #[.string b] W fun e w' => e = .returned (.int .i64 (m : Nat)) ∧ Below W.heap.size W w')(hn : 0 < n) (hm : 0 < m) (hn8 : n ≤ 8) (hm8 : m ≤ 8) (ha : a.size ≤ 16) (hb : b.size ≤ 16) (hna : n ≤ a.size) (h8 : ¬ n + m ≤ 8)(c4 : ∀ W : World, Calls Try.prog 14 #[.string (a ++ b)] W fun e w' => e = .returned (.bool false) ∧ Below W.heap.size W w')(hk : k < 1) (w : World) :
    Calls Try.prog 6 #[.string a, .string b, .int .i64 k] w fun e w' => e = .returned (.bool true) ∧ Below w.heap.size w w' := by
  have hn0 : ((n : Int) == 0) = false := by simp; omega
  have hm0 : ((m : Int) == 0) = false := by simp; omega
  have hna' : ¬ (a.size : Int) < (n : Int) := by omega
  have e0 : ∀ W, (Op.stringOp .add a b).run Try.prog W = .ok (.string (a ++ b)) W := fun W => run_string_add_sum W a b (by omega)
  generalize a ++ b = ab at *
  have h8' : ¬ (n : Int) + (m : Int) ≤ 8 := by omega
  go_enter Try.func6, Try.ntmps6
  have hY0 := Below.refl w.heap.size w
  go_wp2_with fail
  refine (awake_any _).mono ?_
  rintro e w1 ⟨rfl, hb⟩
  replace hY0 := hY0.trans (hb.mono hY0.size)
  clear hb
  go_wp2_with fail
  refine (c2 _).mono ?_
  rintro e w2 ⟨rfl, hb⟩
  replace hY0 := hY0.trans (hb.mono hY0.size)
  clear hb
  go_wp2_with fail
  refine (c3 _).mono ?_
  rintro e w3 ⟨rfl, hb⟩
  replace hY0 := hY0.trans (hb.mono hY0.size)
  clear hb
  go_wp2_with fail
  refine (c4 _).mono ?_
  rintro e w4 ⟨rfl, hb⟩
  replace hY0 := hY0.trans (hb.mono hY0.size)
  clear hb
  go_wp2_with fail
  refine (c4 _).mono ?_
  rintro e w5 ⟨rfl, hb⟩
  replace hY0 := hY0.trans (hb.mono hY0.size)
  clear hb
  go_wp2
  go_ret
  exact ⟨rfl, hY0⟩

set_option maxRecDepth 100000 in
set_option maxHeartbeats 4000000 in
theorem parts9_high (a b : ByteArray) (k : Int) (n m : Nat) (c2 : ∀ W : World, Calls Try.prog 15 #[.string a] W fun e w' => e = .returned (.int .i64 (n : Nat)) ∧ Below W.heap.size W w')(c3 : ∀ W : World, Calls Try.prog 15 #[.string b] W fun e w' => e = .returned (.int .i64 (m : Nat)) ∧ Below W.heap.size W w')(hn : 0 < n) (hm : 0 < m) (hn8 : n ≤ 8) (hm8 : m ≤ 8) (ha : a.size ≤ 16) (hb : b.size ≤ 16) (hna : n ≤ a.size) (h8 : ¬ n + m ≤ 8)(c4 : ∀ W : World, Calls Try.prog 14 #[.string (a ++ b)] W fun e w' => e = .returned (.bool false) ∧ Below W.heap.size W w')(hk : ¬ k < 1) (hk2 : (a.size : Int) ≤ k) (w : World) :
    Calls Try.prog 6 #[.string a, .string b, .int .i64 k] w fun e w' => e = .returned (.bool true) ∧ Below w.heap.size w w' := by
  have hn0 : ((n : Int) == 0) = false := by simp; omega
  have hm0 : ((m : Int) == 0) = false := by simp; omega
  have hna' : ¬ (a.size : Int) < (n : Int) := by omega
  have e0 : ∀ W, (Op.stringOp .add a b).run Try.prog W = .ok (.string (a ++ b)) W := fun W => run_string_add_sum W a b (by omega)
  generalize a ++ b = ab at *
  have h8' : ¬ (n : Int) + (m : Int) ≤ 8 := by omega
  go_enter Try.func6, Try.ntmps6
  have hY0 := Below.refl w.heap.size w
  go_wp2_with fail
  refine (awake_any _).mono ?_
  rintro e w1 ⟨rfl, hb⟩
  replace hY0 := hY0.trans (hb.mono hY0.size)
  clear hb
  go_wp2_with fail
  refine (c2 _).mono ?_
  rintro e w2 ⟨rfl, hb⟩
  replace hY0 := hY0.trans (hb.mono hY0.size)
  clear hb
  go_wp2_with fail
  refine (c3 _).mono ?_
  rintro e w3 ⟨rfl, hb⟩
  replace hY0 := hY0.trans (hb.mono hY0.size)
  clear hb
  go_wp2_with fail
  refine (c4 _).mono ?_
  rintro e w4 ⟨rfl, hb⟩
  replace hY0 := hY0.trans (hb.mono hY0.size)
  clear hb
  go_wp2_with fail
  refine (c4 _).mono ?_
  rintro e w5 ⟨rfl, hb⟩
  replace hY0 := hY0.trans (hb.mono hY0.size)
  clear hb
  go_wp2
  go_ret
  exact ⟨rfl, hY0⟩

set_option maxRecDepth 100000 in
set_option maxHeartbeats 4000000 in
theorem parts9_mid (a b : ByteArray) (k : Int) (n m : Nat) (c2 : ∀ W : World, Calls Try.prog 15 #[.string a] W fun e w' => e = .returned (.int .i64 (n : Nat)) ∧ Below W.heap.size W w')(c3 : ∀ W : World, Calls Try.prog 15 #[.string b] W fun e w' => e = .returned (.int .i64 (m : Nat)) ∧ Below W.heap.size W w')(hn : 0 < n) (hm : 0 < m) (hn8 : n ≤ 8) (hm8 : m ≤ 8) (ha : a.size ≤ 16) (hb : b.size ≤ 16) (hna : n ≤ a.size) (h8 : ¬ n + m ≤ 8)(c4 : ∀ W : World, Calls Try.prog 14 #[.string (a ++ b)] W fun e w' => e = .returned (.bool false) ∧ Below W.heap.size W w')(j : Nat) (hk : 1 ≤ j) (hj : j < a.size) (hkj : (j : Int) = k) (h1 : 128 ≤ (a[j].toNat : Int)) (h2 : (a[j].toNat : Int) < 192) (w : World) :
    Calls Try.prog 6 #[.string a, .string b, .int .i64 k] w fun e w' => e = .returned (.bool true) ∧ Below w.heap.size w w' := by
  have hn0 : ((n : Int) == 0) = false := by simp; omega
  have hm0 : ((m : Int) == 0) = false := by simp; omega
  have hna' : ¬ (a.size : Int) < (n : Int) := by omega
  have e0 : ∀ W, (Op.stringOp .add a b).run Try.prog W = .ok (.string (a ++ b)) W := fun W => run_string_add_sum W a b (by omega)
  generalize a ++ b = ab at *
  have h8' : ¬ (n : Int) + (m : Int) ≤ 8 := by omega
  subst hkj
  have hk2 : ¬ (a.size : Int) ≤ (j : Int) := by omega
  go_enter Try.func6, Try.ntmps6
  have hY0 := Below.refl w.heap.size w
  go_wp2_with fail
  refine (awake_any _).mono ?_
  rintro e w1 ⟨rfl, hb⟩
  replace hY0 := hY0.trans (hb.mono hY0.size)
  clear hb
  go_wp2_with fail
  refine (c2 _).mono ?_
  rintro e w2 ⟨rfl, hb⟩
  replace hY0 := hY0.trans (hb.mono hY0.size)
  clear hb
  go_wp2_with fail
  refine (c3 _).mono ?_
  rintro e w3 ⟨rfl, hb⟩
  replace hY0 := hY0.trans (hb.mono hY0.size)
  clear hb
  go_wp2_with fail
  refine (c4 _).mono ?_
  rintro e w4 ⟨rfl, hb⟩
  replace hY0 := hY0.trans (hb.mono hY0.size)
  clear hb
  go_wp2_with fail
  refine (c4 _).mono ?_
  rintro e w5 ⟨rfl, hb⟩
  replace hY0 := hY0.trans (hb.mono hY0.size)
  clear hb
  go_wp2
  go_ret
  exact ⟨rfl, hY0⟩

set_option maxRecDepth 100000 in
set_option maxHeartbeats 4000000 in
theorem parts9_lo (a b : ByteArray) (k : Int) (n m : Nat) (c2 : ∀ W : World, Calls Try.prog 15 #[.string a] W fun e w' => e = .returned (.int .i64 (n : Nat)) ∧ Below W.heap.size W w')(c3 : ∀ W : World, Calls Try.prog 15 #[.string b] W fun e w' => e = .returned (.int .i64 (m : Nat)) ∧ Below W.heap.size W w')(hn : 0 < n) (hm : 0 < m) (hn8 : n ≤ 8) (hm8 : m ≤ 8) (ha : a.size ≤ 16) (hb : b.size ≤ 16) (hna : n ≤ a.size) (h8 : ¬ n + m ≤ 8)(c4 : ∀ W : World, Calls Try.prog 14 #[.string (a ++ b)] W fun e w' => e = .returned (.bool false) ∧ Below W.heap.size W w')(j r : Nat) (hk : 1 ≤ j) (hj : j < a.size) (hkj : (j : Int) = k) (hr : r < n) (d1 : ∀ W : World, Calls Try.prog 14 #[.string (a.extract 0 j)] W fun e w' => e = .returned (.bool true) ∧ Below W.heap.size W w')(d2 : ∀ W : World, Calls Try.prog 15 #[.string (a.extract 0 j)] W fun e w' => e = .returned (.int .i64 (r : Nat)) ∧ Below W.heap.size W w')(h1 : ¬ 128 ≤ (a[j].toNat : Int)) (w : World) :
    Calls Try.prog 6 #[.string a, .string b, .int .i64 k] w fun e w' => e = .returned (.bool true) ∧ Below w.heap.size w w' := by
  have hn0 : ((n : Int) == 0) = false := by simp; omega
  have hm0 : ((m : Int) == 0) = false := by simp; omega
  have hna' : ¬ (a.size : Int) < (n : Int) := by omega
  have e0 : ∀ W, (Op.stringOp .add a b).run Try.prog W = .ok (.string (a ++ b)) W := fun W => run_string_add_sum W a b (by omega)
  generalize a ++ b = ab at *
  have h8' : ¬ (n : Int) + (m : Int) ≤ 8 := by omega
  subst hkj
  have hk2 : ¬ (a.size : Int) ≤ (j : Int) := by omega
  have hr' : (r : Int) < (n : Int) := by omega
  go_enter Try.func6, Try.ntmps6
  have hY0 := Below.refl w.heap.size w
  go_wp2_with fail
  refine (awake_any _).mono ?_
  rintro e w1 ⟨rfl, hb⟩
  replace hY0 := hY0.trans (hb.mono hY0.size)
  clear hb
  go_wp2_with fail
  refine (c2 _).mono ?_
  rintro e w2 ⟨rfl, hb⟩
  replace hY0 := hY0.trans (hb.mono hY0.size)
  clear hb
  go_wp2_with fail
  refine (c3 _).mono ?_
  rintro e w3 ⟨rfl, hb⟩
  replace hY0 := hY0.trans (hb.mono hY0.size)
  clear hb
  go_wp2_with fail
  refine (c4 _).mono ?_
  rintro e w4 ⟨rfl, hb⟩
  replace hY0 := hY0.trans (hb.mono hY0.size)
  clear hb
  go_wp2_with fail
  refine (c4 _).mono ?_
  rintro e w5 ⟨rfl, hb⟩
  replace hY0 := hY0.trans (hb.mono hY0.size)
  clear hb
  go_wp2_with fail
  refine (d1 _).mono ?_
  rintro e w6 ⟨rfl, hb⟩
  replace hY0 := hY0.trans (hb.mono hY0.size)
  clear hb
  go_wp2_with fail
  refine (d2 _).mono ?_
  rintro e w7 ⟨rfl, hb⟩
  replace hY0 := hY0.trans (hb.mono hY0.size)
  clear hb
  go_wp2
  go_ret
  exact ⟨rfl, hY0⟩

set_option maxRecDepth 100000 in
set_option maxHeartbeats 4000000 in
theorem parts9_hi (a b : ByteArray) (k : Int) (n m : Nat) (c2 : ∀ W : World, Calls Try.prog 15 #[.string a] W fun e w' => e = .returned (.int .i64 (n : Nat)) ∧ Below W.heap.size W w')(c3 : ∀ W : World, Calls Try.prog 15 #[.string b] W fun e w' => e = .returned (.int .i64 (m : Nat)) ∧ Below W.heap.size W w')(hn : 0 < n) (hm : 0 < m) (hn8 : n ≤ 8) (hm8 : m ≤ 8) (ha : a.size ≤ 16) (hb : b.size ≤ 16) (hna : n ≤ a.size) (h8 : ¬ n + m ≤ 8)(c4 : ∀ W : World, Calls Try.prog 14 #[.string (a ++ b)] W fun e w' => e = .returned (.bool false) ∧ Below W.heap.size W w')(j r : Nat) (hk : 1 ≤ j) (hj : j < a.size) (hkj : (j : Int) = k) (hr : r < n) (d1 : ∀ W : World, Calls Try.prog 14 #[.string (a.extract 0 j)] W fun e w' => e = .returned (.bool true) ∧ Below W.heap.size W w')(d2 : ∀ W : World, Calls Try.prog 15 #[.string (a.extract 0 j)] W fun e w' => e = .returned (.int .i64 (r : Nat)) ∧ Below W.heap.size W w')(h1 : 128 ≤ (a[j].toNat : Int)) (h2 : ¬ (a[j].toNat : Int) < 192) (w : World) :
    Calls Try.prog 6 #[.string a, .string b, .int .i64 k] w fun e w' => e = .returned (.bool true) ∧ Below w.heap.size w w' := by
  have hn0 : ((n : Int) == 0) = false := by simp; omega
  have hm0 : ((m : Int) == 0) = false := by simp; omega
  have hna' : ¬ (a.size : Int) < (n : Int) := by omega
  have e0 : ∀ W, (Op.stringOp .add a b).run Try.prog W = .ok (.string (a ++ b)) W := fun W => run_string_add_sum W a b (by omega)
  generalize a ++ b = ab at *
  have h8' : ¬ (n : Int) + (m : Int) ≤ 8 := by omega
  subst hkj
  have hk2 : ¬ (a.size : Int) ≤ (j : Int) := by omega
  have hr' : (r : Int) < (n : Int) := by omega
  go_enter Try.func6, Try.ntmps6
  have hY0 := Below.refl w.heap.size w
  go_wp2_with fail
  refine (awake_any _).mono ?_
  rintro e w1 ⟨rfl, hb⟩
  replace hY0 := hY0.trans (hb.mono hY0.size)
  clear hb
  go_wp2_with fail
  refine (c2 _).mono ?_
  rintro e w2 ⟨rfl, hb⟩
  replace hY0 := hY0.trans (hb.mono hY0.size)
  clear hb
  go_wp2_with fail
  refine (c3 _).mono ?_
  rintro e w3 ⟨rfl, hb⟩
  replace hY0 := hY0.trans (hb.mono hY0.size)
  clear hb
  go_wp2_with fail
  refine (c4 _).mono ?_
  rintro e w4 ⟨rfl, hb⟩
  replace hY0 := hY0.trans (hb.mono hY0.size)
  clear hb
  go_wp2_with fail
  refine (c4 _).mono ?_
  rintro e w5 ⟨rfl, hb⟩
  replace hY0 := hY0.trans (hb.mono hY0.size)
  clear hb
  go_wp2_with fail
  refine (d1 _).mono ?_
  rintro e w6 ⟨rfl, hb⟩
  replace hY0 := hY0.trans (hb.mono hY0.size)
  clear hb
  go_wp2_with fail
  refine (d2 _).mono ?_
  rintro e w7 ⟨rfl, hb⟩
  replace hY0 := hY0.trans (hb.mono hY0.size)
  clear hb
  go_wp2
  go_ret
  exact ⟨rfl, hY0⟩

end Go.Proofs.Ytahpogbcodfdmaa
