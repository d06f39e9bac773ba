/- The walk of PageWrite. -/
import Derived.Test.YtelfkopoppfaaaaPgWritePlain
namespace Go.Proofs.Ytelfkopoppfaaaa
open Go Go.RowKit
set_option linter.unusedVariables false

theorem neq_words (a b c e a' b' c' e' : Int) (w : World) : (binOp .neq 35 (.agg #[.int .i64 a, .int .i64 b, .int .i64 c, .int .i64 e]) (.agg #[.int .i64 a', .int .i64 b', .int .i64 c', .int .i64 e'])).run Try.prog w = .ok (.bool (!(a == a' && (b == b' && (c == c' && e == e'))))) w := by
  rw [run_neq_struct, show (10000 : Nat) = 9998 + 2 from rfl, equalIn_words]; rfl

theorem guard_words (op : BinOp) (x y : Operand) (a b c e a' b' c' e' : Int) (w : World) : (eqGuard op 35 x y (.agg #[.int .i64 a, .int .i64 b, .int .i64 c, .int .i64 e]) (.agg #[.int .i64 a', .int .i64 b', .int .i64 c', .int .i64 e'])).run Try.prog w = .ok () w :=
  run_eqGuard_agg w op 35 x y _ _ (by kernel_rfl)

set_option maxRecDepth 100000 in
set_option maxHeartbeats 4000000 in
theorem pw_err (w : World) (A0 : Option Addr) (c0 : Nat) (cap0 : Int) (ps0 qsA : List Pg) (p i v k at_ e1 : Int) (hst0 : StV w (.agg #[.int .i64 cap0, .slice A0 ps0.length c0]) cap0 ps0) (hm : mayP cap0 ps0 = true)
    (hA : writeL cap0 ps0 p i v = (at_, e1, qsA)) (hqA : qsA.length ≤ 12) (he : (e1 != 0) = true) (hat : at_ = -1) :
    Calls Try.prog 4 #[.agg #[.int .i64 cap0, .slice A0 ps0.length c0], .int .i64 p, .int .i64 i, .int .i64 v, .int .i64 k] w fun e w' => e = .returned (.bool true) ∧ Below w.heap.size w w' := by
  have hlen := may_len hm
  have hmay := fun sv W h => may_any cap0 sv ps0 W h
  rw [hm] at hmay
  have cA := fun x W hs => Write_any x cap0 ps0 p i v W hs (by omega)
  rw [hA] at cA
  clear hlen hm hA
  subst hat
  go_enter Try.func4, Try.ntmps4
  have hA0 := ((Below.refl w.heap.size w).alloc (Nat.le_refl _) (.cells #[.int .i64 cap0, .slice A0 ps0.length c0] 25))
  replace hst0 := hst0.keep hA0
  have kS := Blk.new_ w 25 #[.int .i64 cap0, .slice A0 ps0.length c0] (w.heap.size) (by simp)
  have hZ0 : Below w.heap.size w _ := hA0
  go_wp2_with fail
  refine (awake_any _).mono ?_
  rintro e w1 ⟨rfl, hb1⟩
  obtain ⟨hc1, hf1⟩ := bcell hb1
  have hz1 := hb1.size
  simp at hz1
  replace hst0 := hst0.keep hb1
  replace kS := kS.keep hb1
  have hY1 := hZ0.trans (hb1.mono hZ0.size)
  have zkS_1 : w.heap.size < w1.heap.size := by omega
  have hZ1 : Below w.heap.size w w1 := hY1
  go_wp2_with fail
  refine (hmay _ _ hst0.sl).mono ?_
  rintro e w2 ⟨rfl, hb2⟩
  obtain ⟨hc2, hf2⟩ := bcell hb2
  have hz2 := hb2.size
  replace hst0 := hst0.keep hb2
  replace kS := kS.keep hb2
  have hY2 := hZ1.trans (hb2.mono hZ1.size)
  have zkS_2 : w.heap.size < w2.heap.size := by omega
  have hZ2 : Below w.heap.size w w2 := hY2
  go_wp2_with fail
  refine (cA _ _ hst0).mono ?_
  rintro e w3 ⟨v3, rfl, hstA, hb3⟩
  obtain ⟨hc3, hf3⟩ := bcell hb3
  have hz3 := hb3.size
  replace hst0 := hst0.keep hb3
  replace kS := kS.keep hb3
  have hY3 := hZ2.trans (hb3.mono hZ2.size)
  have zkS_3 : w.heap.size < w3.heap.size := by omega
  obtain ⟨AA, dA, rfl, hstA⟩ := hstA.form
  have hA3 := ((Below.refl w3.heap.size w3).alloc (Nat.le_refl _) (.cells #[.int .i64 cap0, .slice AA qsA.length dA] 25))
  replace hst0 := hst0.keep hA3
  replace kS := kS.keep hA3
  replace hstA := hstA.keep hA3
  have kA := Blk.new_ w3 25 #[.int .i64 cap0, .slice AA qsA.length dA] (w3.heap.size) (by simp)
  have hZ3 : Below w.heap.size w _ := hY3.trans (hA3.mono hY3.size)
  go_wp2
  go_ret
  exact ⟨rfl, hZ3⟩

end Go.Proofs.Ytelfkopoppfaaaa
