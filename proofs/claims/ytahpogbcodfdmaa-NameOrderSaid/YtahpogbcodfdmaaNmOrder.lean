/- The walk of NameOrder. -/
import Derived.Test.YtahpogbcodfdmaaNmAwake
namespace Go.Proofs.Ytahpogbcodfdmaa
open Go Go.RowKit
set_option linter.unusedVariables false

set_option maxRecDepth 100000 in
set_option maxHeartbeats 4000000 in
theorem order_a (a b c : ByteArray) (c2 : ∀ W : World, Calls Try.prog 14 #[.string a] W fun e w' => e = .returned (.bool false) ∧ Below W.heap.size W w') (w : World) :
    Calls Try.prog 4 #[.string a, .string b, .string c] w fun e w' => e = .returned (.bool true) ∧ Below w.heap.size w w' := by
  go_enter Try.func4, Try.ntmps4
  have hY0 := Below.refl w.heap.size w
  go_wp2_with fail
  refine (awake_any _).mono ?_
  rintro e w1 ⟨rfl, hb⟩
  replace hY0 := hY0.trans (hb.mono hY0.size)
  clear hb
  go_wp2_with fail
  refine (c2 _).mono ?_
  rintro e w2 ⟨rfl, hb⟩
  replace hY0 := hY0.trans (hb.mono hY0.size)
  clear hb
  go_wp2
  go_ret
  exact ⟨rfl, hY0⟩

set_option maxRecDepth 100000 in
set_option maxHeartbeats 4000000 in
theorem order_b (a b c : ByteArray) (c2 : ∀ W : World, Calls Try.prog 14 #[.string a] W fun e w' => e = .returned (.bool true) ∧ Below W.heap.size W w')(c3 : ∀ W : World, Calls Try.prog 14 #[.string b] W fun e w' => e = .returned (.bool false) ∧ Below W.heap.size W w') (w : World) :
    Calls Try.prog 4 #[.string a, .string b, .string c] w fun e w' => e = .returned (.bool true) ∧ Below w.heap.size w w' := by
  go_enter Try.func4, Try.ntmps4
  have hY0 := Below.refl w.heap.size w
  go_wp2_with fail
  refine (awake_any _).mono ?_
  rintro e w1 ⟨rfl, hb⟩
  replace hY0 := hY0.trans (hb.mono hY0.size)
  clear hb
  go_wp2_with fail
  refine (c2 _).mono ?_
  rintro e w2 ⟨rfl, hb⟩
  replace hY0 := hY0.trans (hb.mono hY0.size)
  clear hb
  go_wp2_with fail
  refine (c3 _).mono ?_
  rintro e w3 ⟨rfl, hb⟩
  replace hY0 := hY0.trans (hb.mono hY0.size)
  clear hb
  go_wp2
  go_ret
  exact ⟨rfl, hY0⟩

set_option maxRecDepth 100000 in
set_option maxHeartbeats 4000000 in
theorem order_c (a b c : ByteArray) (c2 : ∀ W : World, Calls Try.prog 14 #[.string a] W fun e w' => e = .returned (.bool true) ∧ Below W.heap.size W w')(c3 : ∀ W : World, Calls Try.prog 14 #[.string b] W fun e w' => e = .returned (.bool true) ∧ Below W.heap.size W w')(hc : 200 < c.size) (w : World) :
    Calls Try.prog 4 #[.string a, .string b, .string c] w fun e w' => e = .returned (.bool true) ∧ Below w.heap.size w w' := by
  have hc' : (200 : Int) < (c.size : Int) := by omega
  go_enter Try.func4, Try.ntmps4
  have hY0 := Below.refl w.heap.size w
  go_wp2_with fail
  refine (awake_any _).mono ?_
  rintro e w1 ⟨rfl, hb⟩
  replace hY0 := hY0.trans (hb.mono hY0.size)
  clear hb
  go_wp2_with fail
  refine (c2 _).mono ?_
  rintro e w2 ⟨rfl, hb⟩
  replace hY0 := hY0.trans (hb.mono hY0.size)
  clear hb
  go_wp2_with fail
  refine (c3 _).mono ?_
  rintro e w3 ⟨rfl, hb⟩
  replace hY0 := hY0.trans (hb.mono hY0.size)
  clear hb
  go_wp2
  go_ret
  exact ⟨rfl, hY0⟩

set_option maxRecDepth 100000 in
set_option maxHeartbeats 4000000 in
theorem order_eqn (a b c : ByteArray) (c2 : ∀ W : World, Calls Try.prog 14 #[.string a] W fun e w' => e = .returned (.bool true) ∧ Below W.heap.size W w')(c3 : ∀ W : World, Calls Try.prog 14 #[.string b] W fun e w' => e = .returned (.bool true) ∧ Below W.heap.size W w')(hc : c.size ≤ 200) (ha : a.size ≤ 16)(c4 : ∀ W : World, Calls Try.prog 17 #[.string a, .string b] W fun e w' => e = .returned (.bool false) ∧ Below W.heap.size W w')(c5 : ∀ W : World, Calls Try.prog 17 #[.string b, .string a] W fun e w' => e = .returned (.bool false) ∧ Below W.heap.size W w')(hab : (a.toList == b.toList) = true)(d1 : ∀ W : World, Calls Try.prog 14 #[.string c] W fun e w' => e = .returned (.bool false) ∧ Below W.heap.size W w') (w : World) :
    Calls Try.prog 4 #[.string a, .string b, .string c] w fun e w' => e = .returned (.bool true) ∧ Below w.heap.size w w' := by
  have hc' : ¬ (200 : Int) < (c.size : Int) := by omega
  go_enter Try.func4, Try.ntmps4
  have hY0 := Below.refl w.heap.size w
  go_wp2_with fail
  refine (awake_any _).mono ?_
  rintro e w1 ⟨rfl, hb⟩
  replace hY0 := hY0.trans (hb.mono hY0.size)
  clear hb
  go_wp2_with fail
  refine (c2 _).mono ?_
  rintro e w2 ⟨rfl, hb⟩
  replace hY0 := hY0.trans (hb.mono hY0.size)
  clear hb
  go_wp2_with fail
  refine (c3 _).mono ?_
  rintro e w3 ⟨rfl, hb⟩
  replace hY0 := hY0.trans (hb.mono hY0.size)
  clear hb
  go_wp2_with fail
  refine (c4 _).mono ?_
  rintro e w4 ⟨rfl, hb⟩
  replace hY0 := hY0.trans (hb.mono hY0.size)
  clear hb
  go_wp2_with fail
  refine (c5 _).mono ?_
  rintro e w5 ⟨rfl, hb⟩
  replace hY0 := hY0.trans (hb.mono hY0.size)
  clear hb
  go_wp2_with fail
  refine (d1 _).mono ?_
  rintro e w6 ⟨rfl, hb⟩
  replace hY0 := hY0.trans (hb.mono hY0.size)
  clear hb
  go_wp2
  go_ret
  exact ⟨rfl, hY0⟩

set_option maxRecDepth 100000 in
set_option maxHeartbeats 4000000 in
theorem order_eqy (a b c : ByteArray) (c2 : ∀ W : World, Calls Try.prog 14 #[.string a] W fun e w' => e = .returned (.bool true) ∧ Below W.heap.size W w')(c3 : ∀ W : World, Calls Try.prog 14 #[.string b] W fun e w' => e = .returned (.bool true) ∧ Below W.heap.size W w')(hc : c.size ≤ 200) (ha : a.size ≤ 16)(c4 : ∀ W : World, Calls Try.prog 17 #[.string a, .string b] W fun e w' => e = .returned (.bool false) ∧ Below W.heap.size W w')(c5 : ∀ W : World, Calls Try.prog 17 #[.string b, .string a] W fun e w' => e = .returned (.bool false) ∧ Below W.heap.size W w')(hab : (a.toList == b.toList) = true)(d1 : ∀ W : World, Calls Try.prog 14 #[.string c] W fun e w' => e = .returned (.bool true) ∧ Below W.heap.size W w')(d2 : ∀ W : World, Calls Try.prog 17 #[.string a, .string (a ++ c)] W fun e w' => e = .returned (.bool true) ∧ Below W.heap.size W w') (w : World) :
    Calls Try.prog 4 #[.string a, .string b, .string c] w fun e w' => e = .returned (.bool true) ∧ Below w.heap.size w w' := by
  have hc' : ¬ (200 : Int) < (c.size : Int) := by omega
  have e0 : ∀ W, (Op.stringOp .add a c).run Try.prog W = .ok (.string (a ++ c)) W := fun W => run_string_add_sum W a c (by omega)
  generalize a ++ c = ac at *
  go_enter Try.func4, Try.ntmps4
  have hY0 := Below.refl w.heap.size w
  go_wp2_with fail
  refine (awake_any _).mono ?_
  rintro e w1 ⟨rfl, hb⟩
  replace hY0 := hY0.trans (hb.mono hY0.size)
  clear hb
  go_wp2_with fail
  refine (c2 _).mono ?_
  rintro e w2 ⟨rfl, hb⟩
  replace hY0 := hY0.trans (hb.mono hY0.size)
  clear hb
  go_wp2_with fail
  refine (c3 _).mono ?_
  rintro e w3 ⟨rfl, hb⟩
  replace hY0 := hY0.trans (hb.mono hY0.size)
  clear hb
  go_wp2_with fail
  refine (c4 _).mono ?_
  rintro e w4 ⟨rfl, hb⟩
  replace hY0 := hY0.trans (hb.mono hY0.size)
  clear hb
  go_wp2_with fail
  refine (c5 _).mono ?_
  rintro e w5 ⟨rfl, hb⟩
  replace hY0 := hY0.trans (hb.mono hY0.size)
  clear hb
  go_wp2_with fail
  refine (d1 _).mono ?_
  rintro e w6 ⟨rfl, hb⟩
  replace hY0 := hY0.trans (hb.mono hY0.size)
  clear hb
  go_wp2_with fail
  refine (d2 _).mono ?_
  rintro e w7 ⟨rfl, hb⟩
  replace hY0 := hY0.trans (hb.mono hY0.size)
  clear hb
  go_wp2
  go_ret
  exact ⟨rfl, hY0⟩

set_option maxRecDepth 100000 in
set_option maxHeartbeats 4000000 in
theorem order_gtn (a b c : ByteArray) (c2 : ∀ W : World, Calls Try.prog 14 #[.string a] W fun e w' => e = .returned (.bool true) ∧ Below W.heap.size W w')(c3 : ∀ W : World, Calls Try.prog 14 #[.string b] W fun e w' => e = .returned (.bool true) ∧ Below W.heap.size W w')(hc : c.size ≤ 200) (ha : a.size ≤ 16)(c4 : ∀ W : World, Calls Try.prog 17 #[.string a, .string b] W fun e w' => e = .returned (.bool false) ∧ Below W.heap.size W w')(c5 : ∀ W : World, Calls Try.prog 17 #[.string b, .string a] W fun e w' => e = .returned (.bool true) ∧ Below W.heap.size W w')(hab : (a.toList == b.toList) = false)(d1 : ∀ W : World, Calls Try.prog 14 #[.string c] W fun e w' => e = .returned (.bool false) ∧ Below W.heap.size W w') (w : World) :
    Calls Try.prog 4 #[.string a, .string b, .string c] w fun e w' => e = .returned (.bool true) ∧ Below w.heap.size w w' := by
  have hc' : ¬ (200 : Int) < (c.size : Int) := by omega
  go_enter Try.func4, Try.ntmps4
  have hY0 := Below.refl w.heap.size w
  go_wp2_with fail
  refine (awake_any _).mono ?_
  rintro e w1 ⟨rfl, hb⟩
  replace hY0 := hY0.trans (hb.mono hY0.size)
  clear hb
  go_wp2_with fail
  refine (c2 _).mono ?_
  rintro e w2 ⟨rfl, hb⟩
  replace hY0 := hY0.trans (hb.mono hY0.size)
  clear hb
  go_wp2_with fail
  refine (c3 _).mono ?_
  rintro e w3 ⟨rfl, hb⟩
  replace hY0 := hY0.trans (hb.mono hY0.size)
  clear hb
  go_wp2_with fail
  refine (c4 _).mono ?_
  rintro e w4 ⟨rfl, hb⟩
  replace hY0 := hY0.trans (hb.mono hY0.size)
  clear hb
  go_wp2_with fail
  refine (c5 _).mono ?_
  rintro e w5 ⟨rfl, hb⟩
  replace hY0 := hY0.trans (hb.mono hY0.size)
  clear hb
  go_wp2_with fail
  refine (d1 _).mono ?_
  rintro e w6 ⟨rfl, hb⟩
  replace hY0 := hY0.trans (hb.mono hY0.size)
  clear hb
  go_wp2
  go_ret
  exact ⟨rfl, hY0⟩

set_option maxRecDepth 100000 in
set_option maxHeartbeats 4000000 in
theorem order_gty (a b c : ByteArray) (c2 : ∀ W : World, Calls Try.prog 14 #[.string a] W fun e w' => e = .returned (.bool true) ∧ Below W.heap.size W w')(c3 : ∀ W : World, Calls Try.prog 14 #[.string b] W fun e w' => e = .returned (.bool true) ∧ Below W.heap.size W w')(hc : c.size ≤ 200) (ha : a.size ≤ 16)(c4 : ∀ W : World, Calls Try.prog 17 #[.string a, .string b] W fun e w' => e = .returned (.bool false) ∧ Below W.heap.size W w')(c5 : ∀ W : World, Calls Try.prog 17 #[.string b, .string a] W fun e w' => e = .returned (.bool true) ∧ Below W.heap.size W w')(hab : (a.toList == b.toList) = false)(d1 : ∀ W : World, Calls Try.prog 14 #[.string c] W fun e w' => e = .returned (.bool true) ∧ Below W.heap.size W w')(d2 : ∀ W : World, Calls Try.prog 17 #[.string a, .string (a ++ c)] W fun e w' => e = .returned (.bool true) ∧ Below W.heap.size W w') (w : World) :
    Calls Try.prog 4 #[.string a, .string b, .string c] w fun e w' => e = .returned (.bool true) ∧ Below w.heap.size w w' := by
  have hc' : ¬ (200 : Int) < (c.size : Int) := by omega
  have e0 : ∀ W, (Op.stringOp .add a c).run Try.prog W = .ok (.string (a ++ c)) W := fun W => run_string_add_sum W a c (by omega)
  generalize a ++ c = ac at *
  go_enter Try.func4, Try.ntmps4
  have hY0 := Below.refl w.heap.size w
  go_wp2_with fail
  refine (awake_any _).mono ?_
  rintro e w1 ⟨rfl, hb⟩
  replace hY0 := hY0.trans (hb.mono hY0.size)
  clear hb
  go_wp2_with fail
  refine (c2 _).mono ?_
  rintro e w2 ⟨rfl, hb⟩
  replace hY0 := hY0.trans (hb.mono hY0.size)
  clear hb
  go_wp2_with fail
  refine (c3 _).mono ?_
  rintro e w3 ⟨rfl, hb⟩
  replace hY0 := hY0.trans (hb.mono hY0.size)
  clear hb
  go_wp2_with fail
  refine (c4 _).mono ?_
  rintro e w4 ⟨rfl, hb⟩
  replace hY0 := hY0.trans (hb.mono hY0.size)
  clear hb
  go_wp2_with fail
  refine (c5 _).mono ?_
  rintro e w5 ⟨rfl, hb⟩
  replace hY0 := hY0.trans (hb.mono hY0.size)
  clear hb
  go_wp2_with fail
  refine (d1 _).mono ?_
  rintro e w6 ⟨rfl, hb⟩
  replace hY0 := hY0.trans (hb.mono hY0.size)
  clear hb
  go_wp2_with fail
  refine (d2 _).mono ?_
  rintro e w7 ⟨rfl, hb⟩
  replace hY0 := hY0.trans (hb.mono hY0.size)
  clear hb
  go_wp2
  go_ret
  exact ⟨rfl, hY0⟩

set_option maxRecDepth 100000 in
set_option maxHeartbeats 4000000 in
theorem order_lt0n (a b c : ByteArray) (c2 : ∀ W : World, Calls Try.prog 14 #[.string a] W fun e w' => e = .returned (.bool true) ∧ Below W.heap.size W w')(c3 : ∀ W : World, Calls Try.prog 14 #[.string b] W fun e w' => e = .returned (.bool true) ∧ Below W.heap.size W w')(hc : c.size ≤ 200) (ha : a.size ≤ 16)(c4 : ∀ W : World, Calls Try.prog 17 #[.string a, .string b] W fun e w' => e = .returned (.bool true) ∧ Below W.heap.size W w')(c5 : ∀ W : World, Calls Try.prog 17 #[.string b, .string a] W fun e w' => e = .returned (.bool false) ∧ Below W.heap.size W w')(hab : (a.toList == b.toList) = false)(c6 : ∀ W : World, Calls Try.prog 17 #[.string b, .string c] W fun e w' => e = .returned (.bool false) ∧ Below W.heap.size W w')(d1 : ∀ W : World, Calls Try.prog 14 #[.string c] W fun e w' => e = .returned (.bool false) ∧ Below W.heap.size W w') (w : World) :
    Calls Try.prog 4 #[.string a, .string b, .string c] w fun e w' => e = .returned (.bool true) ∧ Below w.heap.size w w' := by
  have hc' : ¬ (200 : Int) < (c.size : Int) := by omega
  go_enter Try.func4, Try.ntmps4
  have hY0 := Below.refl w.heap.size w
  go_wp2_with fail
  refine (awake_any _).mono ?_
  rintro e w1 ⟨rfl, hb⟩
  replace hY0 := hY0.trans (hb.mono hY0.size)
  clear hb
  go_wp2_with fail
  refine (c2 _).mono ?_
  rintro e w2 ⟨rfl, hb⟩
  replace hY0 := hY0.trans (hb.mono hY0.size)
  clear hb
  go_wp2_with fail
  refine (c3 _).mono ?_
  rintro e w3 ⟨rfl, hb⟩
  replace hY0 := hY0.trans (hb.mono hY0.size)
  clear hb
  go_wp2_with fail
  refine (c4 _).mono ?_
  rintro e w4 ⟨rfl, hb⟩
  replace hY0 := hY0.trans (hb.mono hY0.size)
  clear hb
  go_wp2_with fail
  refine (c5 _).mono ?_
  rintro e w5 ⟨rfl, hb⟩
  replace hY0 := hY0.trans (hb.mono hY0.size)
  clear hb
  go_wp2_with fail
  refine (c6 _).mono ?_
  rintro e w6 ⟨rfl, hb⟩
  replace hY0 := hY0.trans (hb.mono hY0.size)
  clear hb
  go_wp2_with fail
  refine (d1 _).mono ?_
  rintro e w7 ⟨rfl, hb⟩
  replace hY0 := hY0.trans (hb.mono hY0.size)
  clear hb
  go_wp2
  go_ret
  exact ⟨rfl, hY0⟩

set_option maxRecDepth 100000 in
set_option maxHeartbeats 4000000 in
theorem order_lt0y (a b c : ByteArray) (c2 : ∀ W : World, Calls Try.prog 14 #[.string a] W fun e w' => e = .returned (.bool true) ∧ Below W.heap.size W w')(c3 : ∀ W : World, Calls Try.prog 14 #[.string b] W fun e w' => e = .returned (.bool true) ∧ Below W.heap.size W w')(hc : c.size ≤ 200) (ha : a.size ≤ 16)(c4 : ∀ W : World, Calls Try.prog 17 #[.string a, .string b] W fun e w' => e = .returned (.bool true) ∧ Below W.heap.size W w')(c5 : ∀ W : World, Calls Try.prog 17 #[.string b, .string a] W fun e w' => e = .returned (.bool false) ∧ Below W.heap.size W w')(hab : (a.toList == b.toList) = false)(c6 : ∀ W : World, Calls Try.prog 17 #[.string b, .string c] W fun e w' => e = .returned (.bool false) ∧ Below W.heap.size W w')(d1 : ∀ W : World, Calls Try.prog 14 #[.string c] W fun e w' => e = .returned (.bool true) ∧ Below W.heap.size W w')(d2 : ∀ W : World, Calls Try.prog 17 #[.string a, .string (a ++ c)] W fun e w' => e = .returned (.bool true) ∧ Below W.heap.size W w') (w : World) :
    Calls Try.prog 4 #[.string a, .string b, .string c] w fun e w' => e = .returned (.bool true) ∧ Below w.heap.size w w' := by
  have hc' : ¬ (200 : Int) < (c.size : Int) := by omega
  have e0 : ∀ W, (Op.stringOp .add a c).run Try.prog W = .ok (.string (a ++ c)) W := fun W => run_string_add_sum W a c (by omega)
  generalize a ++ c = ac at *
  go_enter Try.func4, Try.ntmps4
  have hY0 := Below.refl w.heap.size w
  go_wp2_with fail
  refine (awake_any _).mono ?_
  rintro e w1 ⟨rfl, hb⟩
  replace hY0 := hY0.trans (hb.mono hY0.size)
  clear hb
  go_wp2_with fail
  refine (c2 _).mono ?_
  rintro e w2 ⟨rfl, hb⟩
  replace hY0 := hY0.trans (hb.mono hY0.size)
  clear hb
  go_wp2_with fail
  refine (c3 _).mono ?_
  rintro e w3 ⟨rfl, hb⟩
  replace hY0 := hY0.trans (hb.mono hY0.size)
  clear hb
  go_wp2_with fail
  refine (c4 _).mono ?_
  rintro e w4 ⟨rfl, hb⟩
  replace hY0 := hY0.trans (hb.mono hY0.size)
  clear hb
  go_wp2_with fail
  refine (c5 _).mono ?_
  rintro e w5 ⟨rfl, hb⟩
  replace hY0 := hY0.trans (hb.mono hY0.size)
  clear hb
  go_wp2_with fail
  refine (c6 _).mono ?_
  rintro e w6 ⟨rfl, hb⟩
  replace hY0 := hY0.trans (hb.mono hY0.size)
  clear hb
  go_wp2_with fail
  refine (d1 _).mono ?_
  rintro e w7 ⟨rfl, hb⟩
  replace hY0 := hY0.trans (hb.mono hY0.size)
  clear hb
  go_wp2_with fail
  refine (d2 _).mono ?_
  rintro e w8 ⟨rfl, hb⟩
  replace hY0 := hY0.trans (hb.mono hY0.size)
  clear hb
  go_wp2
  go_ret
  exact ⟨rfl, hY0⟩

set_option maxRecDepth 100000 in
set_option maxHeartbeats 4000000 in
theorem order_lt1n (a b c : ByteArray) (c2 : ∀ W : World, Calls Try.prog 14 #[.string a] W fun e w' => e = .returned (.bool true) ∧ Below W.heap.size W w')(c3 : ∀ W : World, Calls Try.prog 14 #[.string b] W fun e w' => e = .returned (.bool true) ∧ Below W.heap.size W w')(hc : c.size ≤ 200) (ha : a.size ≤ 16)(c4 : ∀ W : World, Calls Try.prog 17 #[.string a, .string b] W fun e w' => e = .returned (.bool true) ∧ Below W.heap.size W w')(c5 : ∀ W : World, Calls Try.prog 17 #[.string b, .string a] W fun e w' => e = .returned (.bool false) ∧ Below W.heap.size W w')(hab : (a.toList == b.toList) = false)(c6 : ∀ W : World, Calls Try.prog 17 #[.string b, .string c] W fun e w' => e = .returned (.bool true) ∧ Below W.heap.size W w')(c7 : ∀ W : World, Calls Try.prog 17 #[.string a, .string c] W fun e w' => e = .returned (.bool true) ∧ Below W.heap.size W w')(d1 : ∀ W : World, Calls Try.prog 14 #[.string c] W fun e w' => e = .returned (.bool false) ∧ Below W.heap.size W w') (w : World) :
    Calls Try.prog 4 #[.string a, .string b, .string c] w fun e w' => e = .returned (.bool true) ∧ Below w.heap.size w w' := by
  have hc' : ¬ (200 : Int) < (c.size : Int) := by omega
  go_enter Try.func4, Try.ntmps4
  have hY0 := Below.refl w.heap.size w
  go_wp2_with fail
  refine (awake_any _).mono ?_
  rintro e w1 ⟨rfl, hb⟩
  replace hY0 := hY0.trans (hb.mono hY0.size)
  clear hb
  go_wp2_with fail
  refine (c2 _).mono ?_
  rintro e w2 ⟨rfl, hb⟩
  replace hY0 := hY0.trans (hb.mono hY0.size)
  clear hb
  go_wp2_with fail
  refine (c3 _).mono ?_
  rintro e w3 ⟨rfl, hb⟩
  replace hY0 := hY0.trans (hb.mono hY0.size)
  clear hb
  go_wp2_with fail
  refine (c4 _).mono ?_
  rintro e w4 ⟨rfl, hb⟩
  replace hY0 := hY0.trans (hb.mono hY0.size)
  clear hb
  go_wp2_with fail
  refine (c5 _).mono ?_
  rintro e w5 ⟨rfl, hb⟩
  replace hY0 := hY0.trans (hb.mono hY0.size)
  clear hb
  go_wp2_with fail
  refine (c6 _).mono ?_
  rintro e w6 ⟨rfl, hb⟩
  replace hY0 := hY0.trans (hb.mono hY0.size)
  clear hb
  go_wp2_with fail
  refine (c7 _).mono ?_
  rintro e w7 ⟨rfl, hb⟩
  replace hY0 := hY0.trans (hb.mono hY0.size)
  clear hb
  go_wp2_with fail
  refine (d1 _).mono ?_
  rintro e w8 ⟨rfl, hb⟩
  replace hY0 := hY0.trans (hb.mono hY0.size)
  clear hb
  go_wp2
  go_ret
  exact ⟨rfl, hY0⟩

set_option maxRecDepth 100000 in
set_option maxHeartbeats 4000000 in
theorem order_lt1y (a b c : ByteArray) (c2 : ∀ W : World, Calls Try.prog 14 #[.string a] W fun e w' => e = .returned (.bool true) ∧ Below W.heap.size W w')(c3 : ∀ W : World, Calls Try.prog 14 #[.string b] W fun e w' => e = .returned (.bool true) ∧ Below W.heap.size W w')(hc : c.size ≤ 200) (ha : a.size ≤ 16)(c4 : ∀ W : World, Calls Try.prog 17 #[.string a, .string b] W fun e w' => e = .returned (.bool true) ∧ Below W.heap.size W w')(c5 : ∀ W : World, Calls Try.prog 17 #[.string b, .string a] W fun e w' => e = .returned (.bool false) ∧ Below W.heap.size W w')(hab : (a.toList == b.toList) = false)(c6 : ∀ W : World, Calls Try.prog 17 #[.string b, .string c] W fun e w' => e = .returned (.bool true) ∧ Below W.heap.size W w')(c7 : ∀ W : World, Calls Try.prog 17 #[.string a, .string c] W fun e w' => e = .returned (.bool true) ∧ Below W.heap.size W w')(d1 : ∀ W : World, Calls Try.prog 14 #[.string c] W fun e w' => e = .returned (.bool true) ∧ Below W.heap.size W w')(d2 : ∀ W : World, Calls Try.prog 17 #[.string a, .string (a ++ c)] W fun e w' => e = .returned (.bool true) ∧ Below W.heap.size W w') (w : World) :
    Calls Try.prog 4 #[.string a, .string b, .string c] w fun e w' => e = .returned (.bool true) ∧ Below w.heap.size w w' := by
  have hc' : ¬ (200 : Int) < (c.size : Int) := by omega
  have e0 : ∀ W, (Op.stringOp .add a c).run Try.prog W = .ok (.string (a ++ c)) W := fun W => run_string_add_sum W a c (by omega)
  generalize a ++ c = ac at *
  go_enter Try.func4, Try.ntmps4
  have hY0 := Below.refl w.heap.size w
  go_wp2_with fail
  refine (awake_any _).mono ?_
  rintro e w1 ⟨rfl, hb⟩
  replace hY0 := hY0.trans (hb.mono hY0.size)
  clear hb
  go_wp2_with fail
  refine (c2 _).mono ?_
  rintro e w2 ⟨rfl, hb⟩
  replace hY0 := hY0.trans (hb.mono hY0.size)
  clear hb
  go_wp2_with fail
  refine (c3 _).mono ?_
  rintro e w3 ⟨rfl, hb⟩
  replace hY0 := hY0.trans (hb.mono hY0.size)
  clear hb
  go_wp2_with fail
  refine (c4 _).mono ?_
  rintro e w4 ⟨rfl, hb⟩
  replace hY0 := hY0.trans (hb.mono hY0.size)
  clear hb
  go_wp2_with fail
  refine (c5 _).mono ?_
  rintro e w5 ⟨rfl, hb⟩
  replace hY0 := hY0.trans (hb.mono hY0.size)
  clear hb
  go_wp2_with fail
  refine (c6 _).mono ?_
  rintro e w6 ⟨rfl, hb⟩
  replace hY0 := hY0.trans (hb.mono hY0.size)
  clear hb
  go_wp2_with fail
  refine (c7 _).mono ?_
  rintro e w7 ⟨rfl, hb⟩
  replace hY0 := hY0.trans (hb.mono hY0.size)
  clear hb
  go_wp2_with fail
  refine (d1 _).mono ?_
  rintro e w8 ⟨rfl, hb⟩
  replace hY0 := hY0.trans (hb.mono hY0.size)
  clear hb
  go_wp2_with fail
  refine (d2 _).mono ?_
  rintro e w9 ⟨rfl, hb⟩
  replace hY0 := hY0.trans (hb.mono hY0.size)
  clear hb
  go_wp2
  go_ret
  exact ⟨rfl, hY0⟩

end Go.Proofs.Ytahpogbcodfdmaa
