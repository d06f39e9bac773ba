/- The walk of NameJoin. -/
import Derived.Test.YtahpogbcodfdmaaNmAwake
namespace Go.Proofs.Ytahpogbcodfdmaa
open Go Go.RowKit
set_option linter.unusedVariables false

set_option maxRecDepth 100000 in
set_option maxHeartbeats 4000000 in
theorem join_a (a b s : ByteArray) (ha : 200 < a.size) (w : World) :
    Calls Try.prog 5 #[.string a, .string b, .string s] w fun e w' => e = .returned (.bool true) ∧ Below w.heap.size w w' := by
  have ha' : (200 : Int) < (a.size : Int) := by omega
  go_enter Try.func5, Try.ntmps5
  have hY0 := Below.refl w.heap.size w
  go_wp2_with fail
  refine (awake_any _).mono ?_
  rintro e w1 ⟨rfl, hb⟩
  replace hY0 := hY0.trans (hb.mono hY0.size)
  clear hb
  go_wp2
  go_ret
  exact ⟨rfl, hY0⟩

set_option maxRecDepth 100000 in
set_option maxHeartbeats 4000000 in
theorem join_b (a b s : ByteArray) (ha : a.size ≤ 200) (hb : 200 < b.size) (w : World) :
    Calls Try.prog 5 #[.string a, .string b, .string s] w fun e w' => e = .returned (.bool true) ∧ Below w.heap.size w w' := by
  have ha' : ¬ (200 : Int) < (a.size : Int) := by omega
  have hb' : (200 : Int) < (b.size : Int) := by omega
  go_enter Try.func5, Try.ntmps5
  have hY0 := Below.refl w.heap.size w
  go_wp2_with fail
  refine (awake_any _).mono ?_
  rintro e w1 ⟨rfl, hb⟩
  replace hY0 := hY0.trans (hb.mono hY0.size)
  clear hb
  go_wp2
  go_ret
  exact ⟨rfl, hY0⟩

set_option maxRecDepth 100000 in
set_option maxHeartbeats 4000000 in
theorem join_s (a b s : ByteArray) (ha : a.size ≤ 200) (hb : b.size ≤ 200) (hs : 200 < s.size) (w : World) :
    Calls Try.prog 5 #[.string a, .string b, .string s] w fun e w' => e = .returned (.bool true) ∧ Below w.heap.size w w' := by
  have ha' : ¬ (200 : Int) < (a.size : Int) := by omega
  have hb' : ¬ (200 : Int) < (b.size : Int) := by omega
  have hs' : (200 : Int) < (s.size : Int) := by omega
  go_enter Try.func5, Try.ntmps5
  have hY0 := Below.refl w.heap.size w
  go_wp2_with fail
  refine (awake_any _).mono ?_
  rintro e w1 ⟨rfl, hb⟩
  replace hY0 := hY0.trans (hb.mono hY0.size)
  clear hb
  go_wp2
  go_ret
  exact ⟨rfl, hY0⟩

set_option maxRecDepth 100000 in
set_option maxHeartbeats 4000000 in
theorem join_n1y (a b s : ByteArray) (ha : a.size ≤ 200) (hb : b.size ≤ 200) (hs : s.size ≤ 200) (c2 : ∀ W : World, Calls Try.prog 18 #[.string a, .string b] W fun e w' => e = .returned (.string ⟨#[]⟩) ∧ Below W.heap.size W w')(c3 : ∀ W : World, Calls Try.prog 10 #[.string ⟨#[]⟩] W fun e w' => e = .returned (.tuple #[.string ⟨#[]⟩, .string ⟨#[]⟩, .bool false]) ∧ Below W.heap.size W w')(c4 : ∀ W : World, Calls Try.prog 14 #[.string a] W fun e w' => e = .returned (.bool false) ∧ Below W.heap.size W w')(p q : ByteArray) (d1 : ∀ W : World, Calls Try.prog 10 #[.string s] W fun e w' => e = .returned (.tuple #[.string p, .string q, .bool true]) ∧ Below W.heap.size W w')(d2 : ∀ W : World, Calls Try.prog 18 #[.string p, .string q] W fun e w' => e = .returned (.string s) ∧ Below W.heap.size W w') (w : World) :
    Calls Try.prog 5 #[.string a, .string b, .string s] w fun e w' => e = .returned (.bool true) ∧ Below w.heap.size w w' := by
  have ha' : ¬ (200 : Int) < (a.size : Int) := by omega
  have hb' : ¬ (200 : Int) < (b.size : Int) := by omega
  have hs' : ¬ (200 : Int) < (s.size : Int) := by omega
  have e00 : (⟨#[]⟩ : ByteArray).toList = [] := by rw [Lib.toList_data]
  have es : (s.toList == s.toList) = true := by simp
  go_enter Try.func5, Try.ntmps5
  have hY0 := Below.refl w.heap.size w
  go_wp2_with fail
  refine (awake_any _).mono ?_
  rintro e w1 ⟨rfl, hb⟩
  replace hY0 := hY0.trans (hb.mono hY0.size)
  clear hb
  go_wp2_with fail
  refine (c2 _).mono ?_
  rintro e w2 ⟨rfl, hb⟩
  replace hY0 := hY0.trans (hb.mono hY0.size)
  clear hb
  go_wp2_with fail
  refine (c3 _).mono ?_
  rintro e w3 ⟨rfl, hb⟩
  replace hY0 := hY0.trans (hb.mono hY0.size)
  clear hb
  go_wp2_with fail
  refine (c4 _).mono ?_
  rintro e w4 ⟨rfl, hb⟩
  replace hY0 := hY0.trans (hb.mono hY0.size)
  clear hb
  go_wp2_with fail
  refine (d1 _).mono ?_
  rintro e w5 ⟨rfl, hb⟩
  replace hY0 := hY0.trans (hb.mono hY0.size)
  clear hb
  go_wp2_with fail
  refine (d2 _).mono ?_
  rintro e w6 ⟨rfl, hb⟩
  replace hY0 := hY0.trans (hb.mono hY0.size)
  clear hb
  go_wp2
  go_ret
  exact ⟨rfl, hY0⟩

set_option maxRecDepth 100000 in
set_option maxHeartbeats 4000000 in
theorem join_n1n (a b s : ByteArray) (ha : a.size ≤ 200) (hb : b.size ≤ 200) (hs : s.size ≤ 200) (c2 : ∀ W : World, Calls Try.prog 18 #[.string a, .string b] W fun e w' => e = .returned (.string ⟨#[]⟩) ∧ Below W.heap.size W w')(c3 : ∀ W : World, Calls Try.prog 10 #[.string ⟨#[]⟩] W fun e w' => e = .returned (.tuple #[.string ⟨#[]⟩, .string ⟨#[]⟩, .bool false]) ∧ Below W.heap.size W w')(c4 : ∀ W : World, Calls Try.prog 14 #[.string a] W fun e w' => e = .returned (.bool false) ∧ Below W.heap.size W w')(d1 : ∀ W : World, Calls Try.prog 10 #[.string s] W fun e w' => e = .returned (.tuple #[.string ⟨#[]⟩, .string ⟨#[]⟩, .bool false]) ∧ Below W.heap.size W w') (w : World) :
    Calls Try.prog 5 #[.string a, .string b, .string s] w fun e w' => e = .returned (.bool true) ∧ Below w.heap.size w w' := by
  have ha' : ¬ (200 : Int) < (a.size : Int) := by omega
  have hb' : ¬ (200 : Int) < (b.size : Int) := by omega
  have hs' : ¬ (200 : Int) < (s.size : Int) := by omega
  have e00 : (⟨#[]⟩ : ByteArray).toList = [] := by rw [Lib.toList_data]
  have e0 : (⟨#[]⟩ : ByteArray).toList = [] := by rw [Lib.toList_data]
  go_enter Try.func5, Try.ntmps5
  have hY0 := Below.refl w.heap.size w
  go_wp2_with fail
  refine (awake_any _).mono ?_
  rintro e w1 ⟨rfl, hb⟩
  replace hY0 := hY0.trans (hb.mono hY0.size)
  clear hb
  go_wp2_with fail
  refine (c2 _).mono ?_
  rintro e w2 ⟨rfl, hb⟩
  replace hY0 := hY0.trans (hb.mono hY0.size)
  clear hb
  go_wp2_with fail
  refine (c3 _).mono ?_
  rintro e w3 ⟨rfl, hb⟩
  replace hY0 := hY0.trans (hb.mono hY0.size)
  clear hb
  go_wp2_with fail
  refine (c4 _).mono ?_
  rintro e w4 ⟨rfl, hb⟩
  replace hY0 := hY0.trans (hb.mono hY0.size)
  clear hb
  go_wp2_with fail
  refine (d1 _).mono ?_
  rintro e w5 ⟨rfl, hb⟩
  replace hY0 := hY0.trans (hb.mono hY0.size)
  clear hb
  go_wp2
  go_ret
  exact ⟨rfl, hY0⟩

set_option maxRecDepth 100000 in
set_option maxHeartbeats 4000000 in
theorem join_n2y (a b s : ByteArray) (ha : a.size ≤ 200) (hb : b.size ≤ 200) (hs : s.size ≤ 200) (c2 : ∀ W : World, Calls Try.prog 18 #[.string a, .string b] W fun e w' => e = .returned (.string ⟨#[]⟩) ∧ Below W.heap.size W w')(c3 : ∀ W : World, Calls Try.prog 10 #[.string ⟨#[]⟩] W fun e w' => e = .returned (.tuple #[.string ⟨#[]⟩, .string ⟨#[]⟩, .bool false]) ∧ Below W.heap.size W w')(c4 : ∀ W : World, Calls Try.prog 14 #[.string a] W fun e w' => e = .returned (.bool true) ∧ Below W.heap.size W w')(c5 : ∀ W : World, Calls Try.prog 14 #[.string b] W fun e w' => e = .returned (.bool false) ∧ Below W.heap.size W w')(p q : ByteArray) (d1 : ∀ W : World, Calls Try.prog 10 #[.string s] W fun e w' => e = .returned (.tuple #[.string p, .string q, .bool true]) ∧ Below W.heap.size W w')(d2 : ∀ W : World, Calls Try.prog 18 #[.string p, .string q] W fun e w' => e = .returned (.string s) ∧ Below W.heap.size W w') (w : World) :
    Calls Try.prog 5 #[.string a, .string b, .string s] w fun e w' => e = .returned (.bool true) ∧ Below w.heap.size w w' := by
  have ha' : ¬ (200 : Int) < (a.size : Int) := by omega
  have hb' : ¬ (200 : Int) < (b.size : Int) := by omega
  have hs' : ¬ (200 : Int) < (s.size : Int) := by omega
  have e00 : (⟨#[]⟩ : ByteArray).toList = [] := by rw [Lib.toList_data]
  have es : (s.toList == s.toList) = true := by simp
  go_enter Try.func5, Try.ntmps5
  have hY0 := Below.refl w.heap.size w
  go_wp2_with fail
  refine (awake_any _).mono ?_
  rintro e w1 ⟨rfl, hb⟩
  replace hY0 := hY0.trans (hb.mono hY0.size)
  clear hb
  go_wp2_with fail
  refine (c2 _).mono ?_
  rintro e w2 ⟨rfl, hb⟩
  replace hY0 := hY0.trans (hb.mono hY0.size)
  clear hb
  go_wp2_with fail
  refine (c3 _).mono ?_
  rintro e w3 ⟨rfl, hb⟩
  replace hY0 := hY0.trans (hb.mono hY0.size)
  clear hb
  go_wp2_with fail
  refine (c4 _).mono ?_
  rintro e w4 ⟨rfl, hb⟩
  replace hY0 := hY0.trans (hb.mono hY0.size)
  clear hb
  go_wp2_with fail
  refine (c5 _).mono ?_
  rintro e w5 ⟨rfl, hb⟩
  replace hY0 := hY0.trans (hb.mono hY0.size)
  clear hb
  go_wp2_with fail
  refine (d1 _).mono ?_
  rintro e w6 ⟨rfl, hb⟩
  replace hY0 := hY0.trans (hb.mono hY0.size)
  clear hb
  go_wp2_with fail
  refine (d2 _).mono ?_
  rintro e w7 ⟨rfl, hb⟩
  replace hY0 := hY0.trans (hb.mono hY0.size)
  clear hb
  go_wp2
  go_ret
  exact ⟨rfl, hY0⟩

set_option maxRecDepth 100000 in
set_option maxHeartbeats 4000000 in
theorem join_n2n (a b s : ByteArray) (ha : a.size ≤ 200) (hb : b.size ≤ 200) (hs : s.size ≤ 200) (c2 : ∀ W : World, Calls Try.prog 18 #[.string a, .string b] W fun e w' => e = .returned (.string ⟨#[]⟩) ∧ Below W.heap.size W w')(c3 : ∀ W : World, Calls Try.prog 10 #[.string ⟨#[]⟩] W fun e w' => e = .returned (.tuple #[.string ⟨#[]⟩, .string ⟨#[]⟩, .bool false]) ∧ Below W.heap.size W w')(c4 : ∀ W : World, Calls Try.prog 14 #[.string a] W fun e w' => e = .returned (.bool true) ∧ Below W.heap.size W w')(c5 : ∀ W : World, Calls Try.prog 14 #[.string b] W fun e w' => e = .returned (.bool false) ∧ Below W.heap.size W w')(d1 : ∀ W : World, Calls Try.prog 10 #[.string s] W fun e w' => e = .returned (.tuple #[.string ⟨#[]⟩, .string ⟨#[]⟩, .bool false]) ∧ Below W.heap.size W w') (w : World) :
    Calls Try.prog 5 #[.string a, .string b, .string s] w fun e w' => e = .returned (.bool true) ∧ Below w.heap.size w w' := by
  have ha' : ¬ (200 : Int) < (a.size : Int) := by omega
  have hb' : ¬ (200 : Int) < (b.size : Int) := by omega
  have hs' : ¬ (200 : Int) < (s.size : Int) := by omega
  have e00 : (⟨#[]⟩ : ByteArray).toList = [] := by rw [Lib.toList_data]
  have e0 : (⟨#[]⟩ : ByteArray).toList = [] := by rw [Lib.toList_data]
  go_enter Try.func5, Try.ntmps5
  have hY0 := Below.refl w.heap.size w
  go_wp2_with fail
  refine (awake_any _).mono ?_
  rintro e w1 ⟨rfl, hb⟩
  replace hY0 := hY0.trans (hb.mono hY0.size)
  clear hb
  go_wp2_with fail
  refine (c2 _).mono ?_
  rintro e w2 ⟨rfl, hb⟩
  replace hY0 := hY0.trans (hb.mono hY0.size)
  clear hb
  go_wp2_with fail
  refine (c3 _).mono ?_
  rintro e w3 ⟨rfl, hb⟩
  replace hY0 := hY0.trans (hb.mono hY0.size)
  clear hb
  go_wp2_with fail
  refine (c4 _).mono ?_
  rintro e w4 ⟨rfl, hb⟩
  replace hY0 := hY0.trans (hb.mono hY0.size)
  clear hb
  go_wp2_with fail
  refine (c5 _).mono ?_
  rintro e w5 ⟨rfl, hb⟩
  replace hY0 := hY0.trans (hb.mono hY0.size)
  clear hb
  go_wp2_with fail
  refine (d1 _).mono ?_
  rintro e w6 ⟨rfl, hb⟩
  replace hY0 := hY0.trans (hb.mono hY0.size)
  clear hb
  go_wp2
  go_ret
  exact ⟨rfl, hY0⟩

set_option maxRecDepth 100000 in
set_option maxHeartbeats 4000000 in
theorem join_yy (a b s : ByteArray) (ha : a.size ≤ 200) (hb : b.size ≤ 200) (hs : s.size ≤ 200) (j : ByteArray) (ej : j.toList.isEmpty = false) (c2 : ∀ W : World, Calls Try.prog 18 #[.string a, .string b] W fun e w' => e = .returned (.string j) ∧ Below W.heap.size W w')(c3 : ∀ W : World, Calls Try.prog 10 #[.string j] W fun e w' => e = .returned (.tuple #[.string a, .string b, .bool true]) ∧ Below W.heap.size W w')(c4 : ∀ W : World, Calls Try.prog 14 #[.string a] W fun e w' => e = .returned (.bool true) ∧ Below W.heap.size W w')(c5 : ∀ W : World, Calls Try.prog 14 #[.string b] W fun e w' => e = .returned (.bool true) ∧ Below W.heap.size W w')(p q : ByteArray) (d1 : ∀ W : World, Calls Try.prog 10 #[.string s] W fun e w' => e = .returned (.tuple #[.string p, .string q, .bool true]) ∧ Below W.heap.size W w')(d2 : ∀ W : World, Calls Try.prog 18 #[.string p, .string q] W fun e w' => e = .returned (.string s) ∧ Below W.heap.size W w') (w : World) :
    Calls Try.prog 5 #[.string a, .string b, .string s] w fun e w' => e = .returned (.bool true) ∧ Below w.heap.size w w' := by
  have ha' : ¬ (200 : Int) < (a.size : Int) := by omega
  have hb' : ¬ (200 : Int) < (b.size : Int) := by omega
  have hs' : ¬ (200 : Int) < (s.size : Int) := by omega
  have ea : (a.toList == a.toList) = true := by simp
  have eb : (b.toList == b.toList) = true := by simp
  have ej' : (!j.toList.isEmpty) = true := by rw [ej]; rfl
  have es : (s.toList == s.toList) = true := by simp
  go_enter Try.func5, Try.ntmps5
  have hY0 := Below.refl w.heap.size w
  go_wp2_with fail
  refine (awake_any _).mono ?_
  rintro e w1 ⟨rfl, hb⟩
  replace hY0 := hY0.trans (hb.mono hY0.size)
  clear hb
  go_wp2_with fail
  refine (c2 _).mono ?_
  rintro e w2 ⟨rfl, hb⟩
  replace hY0 := hY0.trans (hb.mono hY0.size)
  clear hb
  go_wp2_with fail
  refine (c3 _).mono ?_
  rintro e w3 ⟨rfl, hb⟩
  replace hY0 := hY0.trans (hb.mono hY0.size)
  clear hb
  go_wp2_with fail
  refine (c4 _).mono ?_
  rintro e w4 ⟨rfl, hb⟩
  replace hY0 := hY0.trans (hb.mono hY0.size)
  clear hb
  go_wp2_with fail
  refine (c5 _).mono ?_
  rintro e w5 ⟨rfl, hb⟩
  replace hY0 := hY0.trans (hb.mono hY0.size)
  clear hb
  go_wp2_with fail
  refine (d1 _).mono ?_
  rintro e w6 ⟨rfl, hb⟩
  replace hY0 := hY0.trans (hb.mono hY0.size)
  clear hb
  go_wp2_with fail
  refine (d2 _).mono ?_
  rintro e w7 ⟨rfl, hb⟩
  replace hY0 := hY0.trans (hb.mono hY0.size)
  clear hb
  go_wp2
  go_ret
  exact ⟨rfl, hY0⟩

set_option maxRecDepth 100000 in
set_option maxHeartbeats 4000000 in
theorem join_yn (a b s : ByteArray) (ha : a.size ≤ 200) (hb : b.size ≤ 200) (hs : s.size ≤ 200) (j : ByteArray) (ej : j.toList.isEmpty = false) (c2 : ∀ W : World, Calls Try.prog 18 #[.string a, .string b] W fun e w' => e = .returned (.string j) ∧ Below W.heap.size W w')(c3 : ∀ W : World, Calls Try.prog 10 #[.string j] W fun e w' => e = .returned (.tuple #[.string a, .string b, .bool true]) ∧ Below W.heap.size W w')(c4 : ∀ W : World, Calls Try.prog 14 #[.string a] W fun e w' => e = .returned (.bool true) ∧ Below W.heap.size W w')(c5 : ∀ W : World, Calls Try.prog 14 #[.string b] W fun e w' => e = .returned (.bool true) ∧ Below W.heap.size W w')(d1 : ∀ W : World, Calls Try.prog 10 #[.string s] W fun e w' => e = .returned (.tuple #[.string ⟨#[]⟩, .string ⟨#[]⟩, .bool false]) ∧ Below W.heap.size W w') (w : World) :
    Calls Try.prog 5 #[.string a, .string b, .string s] w fun e w' => e = .returned (.bool true) ∧ Below w.heap.size w w' := by
  have ha' : ¬ (200 : Int) < (a.size : Int) := by omega
  have hb' : ¬ (200 : Int) < (b.size : Int) := by omega
  have hs' : ¬ (200 : Int) < (s.size : Int) := by omega
  have ea : (a.toList == a.toList) = true := by simp
  have eb : (b.toList == b.toList) = true := by simp
  have ej' : (!j.toList.isEmpty) = true := by rw [ej]; rfl
  have e0 : (⟨#[]⟩ : ByteArray).toList = [] := by rw [Lib.toList_data]
  go_enter Try.func5, Try.ntmps5
  have hY0 := Below.refl w.heap.size w
  go_wp2_with fail
  refine (awake_any _).mono ?_
  rintro e w1 ⟨rfl, hb⟩
  replace hY0 := hY0.trans (hb.mono hY0.size)
  clear hb
  go_wp2_with fail
  refine (c2 _).mono ?_
  rintro e w2 ⟨rfl, hb⟩
  replace hY0 := hY0.trans (hb.mono hY0.size)
  clear hb
  go_wp2_with fail
  refine (c3 _).mono ?_
  rintro e w3 ⟨rfl, hb⟩
  replace hY0 := hY0.trans (hb.mono hY0.size)
  clear hb
  go_wp2_with fail
  refine (c4 _).mono ?_
  rintro e w4 ⟨rfl, hb⟩
  replace hY0 := hY0.trans (hb.mono hY0.size)
  clear hb
  go_wp2_with fail
  refine (c5 _).mono ?_
  rintro e w5 ⟨rfl, hb⟩
  replace hY0 := hY0.trans (hb.mono hY0.size)
  clear hb
  go_wp2_with fail
  refine (d1 _).mono ?_
  rintro e w6 ⟨rfl, hb⟩
  replace hY0 := hY0.trans (hb.mono hY0.size)
  clear hb
  go_wp2
  go_ret
  exact ⟨rfl, hY0⟩

end Go.Proofs.Ytahpogbcodfdmaa
