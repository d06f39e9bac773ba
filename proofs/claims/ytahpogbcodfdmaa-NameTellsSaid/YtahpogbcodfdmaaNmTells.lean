/- The walk of NameTells. -/
import Derived.Test.YtahpogbcodfdmaaNmAwake
import Derived.Test.YtahpogbcodfdmaaNmRefSplit
namespace Go.Proofs.Ytahpogbcodfdmaa
open Go Go.RowKit
set_option linter.unusedVariables false

set_option maxRecDepth 100000 in
set_option maxHeartbeats 4000000 in
theorem tells_a (a b : ByteArray) (ha : 200 < a.size) (w : World) :
    Calls Try.prog 3 #[.string a, .string b] w fun e w' => e = .returned (.bool true) ∧ Below w.heap.size w w' := by
  have ha' : (200 : Int) < (a.size : Int) := by omega
  go_enter Try.func3, Try.ntmps3
  have hY0 := Below.refl w.heap.size w
  go_wp2_with fail
  refine (awake_any _).mono ?_
  rintro e w1 ⟨rfl, hb⟩
  replace hY0 := hY0.trans (hb.mono hY0.size)
  clear hb
  go_wp2
  go_ret
  exact ⟨rfl, hY0⟩

set_option maxRecDepth 100000 in
set_option maxHeartbeats 4000000 in
theorem tells_b (a b : ByteArray) (ha : a.size ≤ 200) (hb : 200 < b.size) (w : World) :
    Calls Try.prog 3 #[.string a, .string b] w fun e w' => e = .returned (.bool true) ∧ Below w.heap.size w w' := by
  have ha' : ¬ (200 : Int) < (a.size : Int) := by omega
  have hb' : (200 : Int) < (b.size : Int) := by omega
  go_enter Try.func3, Try.ntmps3
  have hY0 := Below.refl w.heap.size w
  go_wp2_with fail
  refine (awake_any _).mono ?_
  rintro e w1 ⟨rfl, hb⟩
  replace hY0 := hY0.trans (hb.mono hY0.size)
  clear hb
  go_wp2
  go_ret
  exact ⟨rfl, hY0⟩

set_option maxRecDepth 100000 in
set_option maxHeartbeats 4000000 in
theorem tells_main (a b : ByteArray) (ha : a.size ≤ 200) (hb : b.size ≤ 200) (p q j : ByteArray) (z m l : Bool) (n : Nat) (s1 : ∀ W : World, Calls Try.prog 10 #[.string a] W fun e w' => e = .returned (.tuple #[.string p, .string q, .bool z]) ∧ Below W.heap.size W w')(s2 : ∀ W : World, Calls Try.prog 11 #[.string a] W fun e w' => e = .returned (.tuple #[.string p, .string q, .bool z]) ∧ Below W.heap.size W w')(m1 : ∀ W : World, Calls Try.prog 14 #[.string a] W fun e w' => e = .returned (.bool m) ∧ Below W.heap.size W w')(m2 : ∀ W : World, Calls Try.prog 12 #[.string a] W fun e w' => e = .returned (.bool m) ∧ Below W.heap.size W w')(l1 : ∀ W : World, Calls Try.prog 17 #[.string a, .string b] W fun e w' => e = .returned (.bool l) ∧ Below W.heap.size W w')(l2 : ∀ W : World, Calls Try.prog 13 #[.string a, .string b] W fun e w' => e = .returned (.bool l) ∧ Below W.heap.size W w')(n1 : ∀ W : World, Calls Try.prog 15 #[.string a] W fun e w' => e = .returned (.int .i64 (n : Nat)) ∧ Below W.heap.size W w')(n2 : ∀ W : World, Calls Try.prog 16 #[.string a] W fun e w' => e = .returned (.int .i64 (n : Nat)) ∧ Below W.heap.size W w')(j1 : ∀ W : World, Calls Try.prog 18 #[.string a, .string b] W fun e w' => e = .returned (.string j) ∧ Below W.heap.size W w')(j2 : ∀ W : World, Calls Try.prog 19 #[.string a, .string b] W fun e w' => e = .returned (.string j) ∧ Below W.heap.size W w') (w : World) :
    Calls Try.prog 3 #[.string a, .string b] w fun e w' => e = .returned (.bool true) ∧ Below w.heap.size w w' := by
  have ha' : ¬ (200 : Int) < (a.size : Int) := by omega
  have hb' : ¬ (200 : Int) < (b.size : Int) := by omega
  have xp : (p.toList == p.toList) = true := by simp
  have xq : (q.toList == q.toList) = true := by simp
  have xj : (j.toList == j.toList) = true := by simp
  have yz : (z == z) = true := by simp
  have ym : (m == m) = true := by simp
  have yl : (l == l) = true := by simp
  have yn : ((n : Int) == (n : Int)) = true := by simp
  go_enter Try.func3, Try.ntmps3
  have hY0 := Below.refl w.heap.size w
  go_wp2_with fail
  refine (awake_any _).mono ?_
  rintro e w1 ⟨rfl, hb⟩
  replace hY0 := hY0.trans (hb.mono hY0.size)
  clear hb
  go_wp2_with fail
  refine (s1 _).mono ?_
  rintro e w2 ⟨rfl, hb⟩
  replace hY0 := hY0.trans (hb.mono hY0.size)
  clear hb
  go_wp2_with fail
  refine (s2 _).mono ?_
  rintro e w3 ⟨rfl, hb⟩
  replace hY0 := hY0.trans (hb.mono hY0.size)
  clear hb
  go_wp2_with fail
  refine (m2 _).mono ?_
  rintro e w4 ⟨rfl, hb⟩
  replace hY0 := hY0.trans (hb.mono hY0.size)
  clear hb
  go_wp2_with fail
  refine (l2 _).mono ?_
  rintro e w5 ⟨rfl, hb⟩
  replace hY0 := hY0.trans (hb.mono hY0.size)
  clear hb
  go_wp2_with fail
  refine (m1 _).mono ?_
  rintro e w6 ⟨rfl, hb⟩
  replace hY0 := hY0.trans (hb.mono hY0.size)
  clear hb
  go_wp2_with fail
  refine (n1 _).mono ?_
  rintro e w7 ⟨rfl, hb⟩
  replace hY0 := hY0.trans (hb.mono hY0.size)
  clear hb
  go_wp2_with fail
  refine (n2 _).mono ?_
  rintro e w8 ⟨rfl, hb⟩
  replace hY0 := hY0.trans (hb.mono hY0.size)
  clear hb
  go_wp2_with fail
  refine (l1 _).mono ?_
  rintro e w9 ⟨rfl, hb⟩
  replace hY0 := hY0.trans (hb.mono hY0.size)
  clear hb
  go_wp2_with fail
  refine (j1 _).mono ?_
  rintro e w10 ⟨rfl, hb⟩
  replace hY0 := hY0.trans (hb.mono hY0.size)
  clear hb
  go_wp2_with fail
  refine (j2 _).mono ?_
  rintro e w11 ⟨rfl, hb⟩
  replace hY0 := hY0.trans (hb.mono hY0.size)
  clear hb
  go_wp2
  go_ret
  exact ⟨rfl, hY0⟩

theorem nameTells_walk (w : World) (a : ByteArray) (wa : a.size ≤ maxLen) (b : ByteArray) (wb : b.size ≤ maxLen) :
    Calls Try.prog 3 #[.string a, .string b] w fun e w' => e = .returned (.bool true) ∧ Below w.heap.size w w' := by
  by_cases ha : 200 < a.size
  · exact tells_a a b ha w
  by_cases hb : 200 < b.size
  · exact tells_b a b (by omega) hb w
  exact tells_main a b (by omega) (by omega) _ _ _ _ _ _ _ (fun W => Split_any a W (by omega)) (fun W => rsplit_any a W (by omega)) (fun W => nmay_any a W (by omega)) (fun W => rmay_any a W (by omega))
    (fun W => NLess_any a b W (by omega) (by omega)) (fun W => rless_any a b W (by omega) (by omega)) (fun W => Len_any a W (by omega)) (fun W => rlen_any a W (by omega)) (fun W => Join_any a b W (by omega) (by omega)) (fun W => rjoin_any a b W (by omega) (by omega)) w

end Go.Proofs.Ytahpogbcodfdmaa
