/- The walk of PageWrite, the write done. -/
import Derived.Test.YtelfkopoppfaaaaPgLawWrite
import Derived.Deep.DeepCutAuto
namespace Go.Proofs.Ytelfkopoppfaaaa
open Go Go.RowKit
set_option linter.unusedVariables false
attribute [local go_sem ↓] Go.wp_at_zero Go.wp_at_succ

theorem pgEq_refl' (p : Pg) : pgEq p p = true := by simp [pgEq]

theorem wset_words (x : Pg) (m : Nat) (v : Int) (hm : m < 4) : (#[Value.int .i64 x.a, .int .i64 x.b, .int .i64 x.c, .int .i64 x.d] : Array Value).setIfInBounds m (.int .i64 v) = #[.int .i64 (wset x m v).a, .int .i64 (wset x m v).b, .int .i64 (wset x m v).c, .int .i64 (wset x m v).d] := by
  obtain rfl | rfl | rfl | rfl : m = 0 ∨ m = 1 ∨ m = 2 ∨ m = 3 := by omega
  all_goals rfl

set_option maxRecDepth 100000 in
set_option maxHeartbeats 8000000 in
theorem pw_own (w : World) (A0 : Option Addr) (c0 : Nat) (cap0 : Int) (ps0 qsA : List Pg) (n m a : Nat) (v k : Int) (x0 : Pg) (hst0 : StV w (.agg #[.int .i64 cap0, .slice A0 ps0.length c0]) cap0 ps0) (hm : mayP cap0 ps0 = true)
    (hA : writeL cap0 ps0 n m v = ((a : Int), 0, qsA)) (hqA : qsA.length ≤ 12) (hm4 : m < 4) (hn : n < ps0.length) (ha : a < qsA.length) (hx0 : ps0[n] = x0)
    (hqa : qsA[a] = ⟨1, (wset x0 m v).a, (wset x0 m v).b, (wset x0 m v).c, (wset x0 m v).d⟩) (hna : ((a : Int) == (n : Int)) = true) (hr : (x0.r == 1) = true) (hall : ∀ k, k < ps0.length → k ≠ n → k ≠ a → qsA[k]? = ps0[k]?) :
    Calls Try.prog 4 #[.agg #[.int .i64 cap0, .slice A0 ps0.length c0], .int .i64 (n : Int), .int .i64 (m : Int), .int .i64 v, .int .i64 k] w fun e w' => e = .returned (.bool true) ∧ Below w.heap.size w w' := by
  have hlen := may_len hm
  have hmay := fun sv W h => may_any cap0 sv ps0 W h
  rw [hm] at hmay
  have cA := fun x W hs => Write_any x cap0 ps0 n m v W hs (by omega)
  rw [hA] at cA
  have hww := wset_words x0 m v hm4
  have hn0 : (0 : Int) ≤ (n : Int) := by omega
  have hn1 : (n : Int) < (ps0.length : Int) := by omega
  have ha0 : (0 : Int) ≤ (a : Int) := by omega
  have ha1 : (a : Int) < (qsA.length : Int) := by omega
  have hm0 : (0 : Int) ≤ (m : Int) := by omega
  have hm1 : (m : Int) < 4 := by omega
  have hm2 : (m : Int) ≤ 3 := by omega
  have HA := Lib.hid hall
  have HWW := Lib.hid hww
  clear hlen hm hA hall hww
  have hne : ((a : Int) != (n : Int)) = false := by simpa using hna
  go_enter Try.func4, Try.ntmps4
  have hA0 := ((Below.refl w.heap.size w).alloc (Nat.le_refl _) (.cells #[.int .i64 cap0, .slice A0 ps0.length c0] 25))
  replace hst0 := hst0.keep hA0
  have kS := Blk.new_ w 25 #[.int .i64 cap0, .slice A0 ps0.length c0] (w.heap.size) (by simp)
  have hZ0 : Below w.heap.size w _ := hA0
  go_wp2_with fail
  refine (awake_any _).mono ?_
  rintro e w1 ⟨rfl, hb1⟩
  obtain ⟨hc1, hf1⟩ := bcell hb1
  have hz1 := hb1.size
  simp at hz1
  replace hst0 := hst0.keep hb1
  replace kS := kS.keep hb1
  have hY1 := hZ0.trans (hb1.mono hZ0.size)
  have zkS_1 : w.heap.size < w1.heap.size := by omega
  have hZ1 : Below w.heap.size w w1 := hY1
  go_wp2_with fail
  refine (hmay _ _ hst0.sl).mono ?_
  rintro e w2 ⟨rfl, hb2⟩
  obtain ⟨hc2, hf2⟩ := bcell hb2
  have hz2 := hb2.size
  replace hst0 := hst0.keep hb2
  replace kS := kS.keep hb2
  have hY2 := hZ1.trans (hb2.mono hZ1.size)
  have zkS_2 : w.heap.size < w2.heap.size := by omega
  have hZ2 : Below w.heap.size w w2 := hY2
  go_wp2_with fail
  refine (cA _ _ hst0).mono ?_
  rintro e w3 ⟨v3, rfl, hstA, hb3⟩
  obtain ⟨hc3, hf3⟩ := bcell hb3
  have hz3 := hb3.size
  replace hst0 := hst0.keep hb3
  replace kS := kS.keep hb3
  have hY3 := hZ2.trans (hb3.mono hZ2.size)
  have zkS_3 : w.heap.size < w3.heap.size := by omega
  obtain ⟨AA, dA, rfl, hstA⟩ := hstA.form
  obtain ⟨bA, oA, rfl, hltA, -, helA⟩ := hstA.elem (by omega)
  obtain ⟨b0, o0, rfl, hlt0, -, hel0⟩ := hst0.elem (by omega)
  have p0 : w3.cell? ⟨bA, oA + a * 5, none⟩ = some (.int .i64 1) := by have h := helA w3 (Below.refl _ _) a ha 0 _ rfl; rw [hqa] at h; exact h
  have p1 : w3.cell? ⟨bA, oA + a * 5 + 1, none⟩ = some (.int .i64 (wset x0 m v).a) := by have h := helA w3 (Below.refl _ _) a ha 1 _ rfl; rw [hqa] at h; exact h
  have p2 : w3.cell? ⟨bA, oA + a * 5 + 2, none⟩ = some (.int .i64 (wset x0 m v).b) := by have h := helA w3 (Below.refl _ _) a ha 2 _ rfl; rw [hqa] at h; exact h
  have p3 : w3.cell? ⟨bA, oA + a * 5 + 3, none⟩ = some (.int .i64 (wset x0 m v).c) := by have h := helA w3 (Below.refl _ _) a ha 3 _ rfl; rw [hqa] at h; exact h
  have p4 : w3.cell? ⟨bA, oA + a * 5 + 4, none⟩ = some (.int .i64 (wset x0 m v).d) := by have h := helA w3 (Below.refl _ _) a ha 4 _ rfl; rw [hqa] at h; exact h
  have q0 : w3.cell? ⟨b0, o0 + n * 5, none⟩ = some (.int .i64 x0.r) := by have h := hel0 w3 (Below.refl _ _) n hn 0 _ rfl; rw [hx0] at h; exact h
  have q1 : w3.cell? ⟨b0, o0 + n * 5 + 1, none⟩ = some (.int .i64 x0.a) := by have h := hel0 w3 (Below.refl _ _) n hn 1 _ rfl; rw [hx0] at h; exact h
  have q2 : w3.cell? ⟨b0, o0 + n * 5 + 2, none⟩ = some (.int .i64 x0.b) := by have h := hel0 w3 (Below.refl _ _) n hn 2 _ rfl; rw [hx0] at h; exact h
  have q3 : w3.cell? ⟨b0, o0 + n * 5 + 3, none⟩ = some (.int .i64 x0.c) := by have h := hel0 w3 (Below.refl _ _) n hn 3 _ rfl; rw [hx0] at h; exact h
  have q4 : w3.cell? ⟨b0, o0 + n * 5 + 4, none⟩ = some (.int .i64 x0.d) := by have h := hel0 w3 (Below.refl _ _) n hn 4 _ rfl; rw [hx0] at h; exact h
  go_upto_region 10 with fail
  have hA3 := (((Below.refl w3.heap.size w3).alloc (Nat.le_refl _) (.cells #[.int .i64 cap0, .slice (some ⟨bA, oA, none⟩) qsA.length dA] 25)).alloc (by simp) (.cells #[.int .i64 x0.a, .int .i64 x0.b, .int .i64 x0.c, .int .i64 x0.d] 35))
  replace hst0 := hst0.keep hA3
  replace kS := kS.keep hA3
  replace hstA := hstA.keep hA3
  have kA := (Blk.new_ w3 25 #[.int .i64 cap0, .slice (some ⟨bA, oA, none⟩) qsA.length dA] (w3.heap.size) (by simp)).alloc (.cells #[.int .i64 x0.a, .int .i64 x0.b, .int .i64 x0.c, .int .i64 x0.d] 35)
  have kW := Blk.new_ (w3.alloc (.cells #[.int .i64 cap0, .slice (some ⟨bA, oA, none⟩) qsA.length dA] 25)) 35 #[.int .i64 x0.a, .int .i64 x0.b, .int .i64 x0.c, .int .i64 x0.d] (w3.heap.size + 1) (by simp)
  have hZ3 : Below w.heap.size w _ := hY3.trans (hA3.mono hY3.size)
  have hz4 : w3.heap.size + 2 ≤ (((w3.alloc (.cells #[.int .i64 cap0, .slice (some ⟨bA, oA, none⟩) qsA.length dA] 25)).alloc (.cells #[.int .i64 x0.a, .int .i64 x0.b, .int .i64 x0.c, .int .i64 x0.d] 35))).heap.size := by simp
  obtain ⟨w4, hw4⟩ : ∃ x, ((w3.alloc (.cells #[.int .i64 cap0, .slice (some ⟨bA, oA, none⟩) qsA.length dA] 25)).alloc (.cells #[.int .i64 x0.a, .int .i64 x0.b, .int .i64 x0.c, .int .i64 x0.d] 35)) = x := ⟨_, rfl⟩
  rw [hw4] at hst0
  rw [hw4] at kS
  rw [hw4] at hstA
  rw [hw4] at kA
  rw [hw4] at kW
  have hY4 := hZ3
  have hD4 := hA3
  rw [hw4] at hY4 hD4 hz4 ⊢
  clear hw4
  have kWf := kW.free m
  have kWc : ∃ u, w4.cell? ⟨w3.heap.size + 1, m, none⟩ = some u := ⟨_, (kW.cell m).trans (Array.getElem?_eq_getElem (by simpa using hm4))⟩
  obtain ⟨uu, kWc⟩ := kWc
  go_upto_region 11 with fail
  have kW2 := kW.set_ m (.int .i64 v)
  rw [HWW.out] at kW2
  have kS2 := kS.far (p := ⟨w3.heap.size + 1, m, none⟩) (by simp; omega) (.int .i64 v)
  have kA2 := kA.far (p := ⟨w3.heap.size + 1, m, none⟩) (by simp) (.int .i64 v)
  have hD5 := hD4.setCell (p := ⟨w3.heap.size + 1, m, none⟩) (by simp) (.int .i64 v)
  have hY5 := hY4.setCell (p := ⟨w3.heap.size + 1, m, none⟩) (by have := hY3.size; simp; omega) (.int .i64 v)
  obtain ⟨w5, hw5⟩ : ∃ x, w4.setCell ⟨w3.heap.size + 1, m, none⟩ (.int .i64 v) = x := ⟨_, rfl⟩
  rw [hw5] at kW2 kS2 kA2 hD5 hY5 ⊢
  clear hw5 kW kS kA hD4 hY4 hst0 hstA kWf kWc
  clear p0 q0
  clear p1 q1
  clear p2 q2
  clear p3 q3
  clear p4 q4
  have sl := kS2.lt
  have al := kA2.lt
  have wl := kW2.lt
  have hlbA : bA < w5.heap.size := Nat.lt_of_lt_of_le hltA hD5.size
  have hlb0 : b0 < w5.heap.size := Nat.lt_of_lt_of_le hlt0 hD5.size
  have cs0 : w5.cell? ⟨w.heap.size, 0, none⟩ = some (.int .i64 cap0) := by rw [kS2.cell]; rfl
  have cs1 : w5.cell? ⟨w.heap.size, 1, none⟩ = some (.slice (some ⟨b0, o0, none⟩) ps0.length c0) := by rw [kS2.cell]; rfl
  have ca0 : w5.cell? ⟨w3.heap.size, 0, none⟩ = some (.int .i64 cap0) := by rw [kA2.cell]; rfl
  have ca1 : w5.cell? ⟨w3.heap.size, 1, none⟩ = some (.slice (some ⟨bA, oA, none⟩) qsA.length dA) := by rw [kA2.cell]; rfl
  have cw0 : w5.cell? ⟨w3.heap.size + 1, 0, none⟩ = some (.int .i64 (wset x0 m v).a) := by rw [kW2.cell]; rfl
  have cw1 : w5.cell? ⟨w3.heap.size + 1, 1, none⟩ = some (.int .i64 (wset x0 m v).b) := by rw [kW2.cell]; rfl
  have cw2 : w5.cell? ⟨w3.heap.size + 1, 2, none⟩ = some (.int .i64 (wset x0 m v).c) := by rw [kW2.cell]; rfl
  have cw3 : w5.cell? ⟨w3.heap.size + 1, 3, none⟩ = some (.int .i64 (wset x0 m v).d) := by rw [kW2.cell]; rfl
  have p0 : w5.cell? ⟨bA, oA + a * 5, none⟩ = some (.int .i64 1) := by have h := helA w5 hD5 a ha 0 _ rfl; rw [hqa] at h; exact h
  have p1 : w5.cell? ⟨bA, oA + a * 5 + 1, none⟩ = some (.int .i64 (wset x0 m v).a) := by have h := helA w5 hD5 a ha 1 _ rfl; rw [hqa] at h; exact h
  have p2 : w5.cell? ⟨bA, oA + a * 5 + 2, none⟩ = some (.int .i64 (wset x0 m v).b) := by have h := helA w5 hD5 a ha 2 _ rfl; rw [hqa] at h; exact h
  have p3 : w5.cell? ⟨bA, oA + a * 5 + 3, none⟩ = some (.int .i64 (wset x0 m v).c) := by have h := helA w5 hD5 a ha 3 _ rfl; rw [hqa] at h; exact h
  have p4 : w5.cell? ⟨bA, oA + a * 5 + 4, none⟩ = some (.int .i64 (wset x0 m v).d) := by have h := helA w5 hD5 a ha 4 _ rfl; rw [hqa] at h; exact h
  have q0 : w5.cell? ⟨b0, o0 + n * 5, none⟩ = some (.int .i64 x0.r) := by have h := hel0 w5 hD5 n hn 0 _ rfl; rw [hx0] at h; exact h
  have q1 : w5.cell? ⟨b0, o0 + n * 5 + 1, none⟩ = some (.int .i64 x0.a) := by have h := hel0 w5 hD5 n hn 1 _ rfl; rw [hx0] at h; exact h
  have q2 : w5.cell? ⟨b0, o0 + n * 5 + 2, none⟩ = some (.int .i64 x0.b) := by have h := hel0 w5 hD5 n hn 2 _ rfl; rw [hx0] at h; exact h
  have q3 : w5.cell? ⟨b0, o0 + n * 5 + 3, none⟩ = some (.int .i64 x0.c) := by have h := hel0 w5 hD5 n hn 3 _ rfl; rw [hx0] at h; exact h
  have q4 : w5.cell? ⟨b0, o0 + n * 5 + 4, none⟩ = some (.int .i64 x0.d) := by have h := hel0 w5 hD5 n hn 4 _ rfl; rw [hx0] at h; exact h
  have nw := fun w => neq_words (wset x0 m v).a (wset x0 m v).b (wset x0 m v).c (wset x0 m v).d (wset x0 m v).a (wset x0 m v).b (wset x0 m v).c (wset x0 m v).d w
  simp only [beq_self_eq_true, Bool.and_self, Bool.not_true] at nw
  have gw := fun op x y w => guard_words op x y (wset x0 m v).a (wset x0 m v).b (wset x0 m v).c (wset x0 m v).d (wset x0 m v).a (wset x0 m v).b (wset x0 m v).c (wset x0 m v).d w
  have BW1 := (Below.refl w5.heap.size w5).drew
  refine wp_region_held_drew (S := fun w' => w'.cell? ⟨w3.heap.size, 0, none⟩ = some (.int .i64 cap0) ∧ w'.cell? ⟨w3.heap.size, 1, none⟩ = some (.slice (some ⟨bA, oA, none⟩) qsA.length dA) ∧ w'.cell? ⟨w3.heap.size + 1, 0, none⟩ = some (.int .i64 (wset x0 m v).a) ∧ w'.cell? ⟨w3.heap.size + 1, 1, none⟩ = some (.int .i64 (wset x0 m v).b) ∧ w'.cell? ⟨w3.heap.size + 1, 2, none⟩ = some (.int .i64 (wset x0 m v).c) ∧ w'.cell? ⟨w3.heap.size + 1, 3, none⟩ = some (.int .i64 (wset x0 m v).d) ∧ w'.cell? ⟨bA, oA + a * 5 + 1, none⟩ = some (.int .i64 (wset x0 m v).a) ∧ w'.cell? ⟨bA, oA + a * 5 + 2, none⟩ = some (.int .i64 (wset x0 m v).b) ∧ w'.cell? ⟨bA, oA + a * 5 + 3, none⟩ = some (.int .i64 (wset x0 m v).c) ∧ w'.cell? ⟨bA, oA + a * 5 + 4, none⟩ = some (.int .i64 (wset x0 m v).d)) (by kernel_rfl) ?_ (fun hHeldbr => ?_)
  · exact ⟨(BW1.cell (p := ⟨w3.heap.size, 0, none⟩) al).trans ca0, (BW1.cell (p := ⟨w3.heap.size, 1, none⟩) al).trans ca1, (BW1.cell (p := ⟨w3.heap.size + 1, 0, none⟩) wl).trans cw0, (BW1.cell (p := ⟨w3.heap.size + 1, 1, none⟩) wl).trans cw1, (BW1.cell (p := ⟨w3.heap.size + 1, 2, none⟩) wl).trans cw2, (BW1.cell (p := ⟨w3.heap.size + 1, 3, none⟩) wl).trans cw3, (BW1.cell (p := ⟨bA, oA + a * 5 + 1, none⟩) hlbA).trans p1, (BW1.cell (p := ⟨bA, oA + a * 5 + 2, none⟩) hlbA).trans p2, (BW1.cell (p := ⟨bA, oA + a * 5 + 3, none⟩) hlbA).trans p3, (BW1.cell (p := ⟨bA, oA + a * 5 + 4, none⟩) hlbA).trans p4⟩
  refine wpAnyH_take (i := 0) (oi := { dst := some 97, op := Op.fieldAddr 25 (Operand.tmp 12) 1, type := 0, pos := "law.go:98", after := _, guard := none }) (v := ?vbr0) rfl (by kernel_rfl) (by kernel_rfl) (by kernel_rfl) (fun _ _ _ h => h) (Or.inl ⟨by rfl, ?hybr0⟩) (by assumption) ?restbr0
  case hybr0 => (intro w hSw; (try dsimp only at hSw); go_simp <;> with_reducible rfl)
  try simp only [Act.put, List.setIfInBounds_toArray, List.set_cons_zero, List.set_cons_succ]
  refine wpAnyH_take (i := 1) (oi := { dst := some 98, op := Op.load 23 (Operand.tmp 97), type := 23, pos := "law.go:98", after := _, guard := none }) (v := ?vbr1) rfl (by kernel_rfl) (by kernel_rfl) (by kernel_rfl) (fun _ _ _ h => h) (Or.inl ⟨by rfl, ?hybr1⟩) (by assumption) ?restbr1
  case hybr1 => (intro w hSw; (try dsimp only at hSw); go_simp <;> with_reducible rfl)
  try simp only [Act.put, List.setIfInBounds_toArray, List.set_cons_zero, List.set_cons_succ]
  refine wpAnyH_take (i := 2) (oi := { dst := some 99, op := Op.move (Operand.tmp 13), type := 3, pos := "law.go:98", after := _, guard := none }) (v := ?vbr2) rfl (by kernel_rfl) (by kernel_rfl) (by kernel_rfl) (fun _ _ _ h => h) (Or.inl ⟨by rfl, ?hybr2⟩) (by assumption) ?restbr2
  case hybr2 => (intro w hSw; (try dsimp only at hSw); go_simp <;> with_reducible rfl)
  try simp only [Act.put, List.setIfInBounds_toArray, List.set_cons_zero, List.set_cons_succ]
  refine wpAnyH_take (i := 3) (oi := { dst := some 100, op := Op.indexAddr 23 (Operand.tmp 98) (Operand.tmp 99), type := 0, pos := "law.go:98", after := _, guard := none }) (v := ?vbr3) rfl (by kernel_rfl) (by kernel_rfl) (by kernel_rfl) (fun _ _ _ h => h) (Or.inl ⟨by rfl, ?hybr3⟩) (by assumption) ?restbr3
  case hybr3 => (intro w hSw; (try dsimp only at hSw); go_simp <;> with_reducible rfl)
  try simp only [Act.put, List.setIfInBounds_toArray, List.set_cons_zero, List.set_cons_succ]
  refine wpAnyH_take (i := 4) (oi := { dst := some 101, op := Op.fieldAddr 37 (Operand.tmp 100) 1, type := 0, pos := "law.go:98", after := _, guard := none }) (v := ?vbr4) rfl (by kernel_rfl) (by kernel_rfl) (by kernel_rfl) (fun _ _ _ h => h) (Or.inl ⟨by rfl, ?hybr4⟩) (by assumption) ?restbr4
  case hybr4 => (intro w hSw; (try dsimp only at hSw); go_simp <;> with_reducible rfl)
  try simp only [Act.put, List.setIfInBounds_toArray, List.set_cons_zero, List.set_cons_succ]
  refine wpAnyH_take (i := 5) (oi := { dst := some 102, op := Op.load 35 (Operand.tmp 101), type := 35, pos := "law.go:98", after := _, guard := none }) (v := ?vbr5) rfl (by kernel_rfl) (by kernel_rfl) (by kernel_rfl) (fun _ _ _ h => h) (Or.inl ⟨by rfl, ?hybr5⟩) (by assumption) ?restbr5
  case hybr5 => (intro w hSw; (try dsimp only at hSw); go_simp <;> with_reducible rfl)
  try simp only [Act.put, List.setIfInBounds_toArray, List.set_cons_zero, List.set_cons_succ]
  refine wpAnyH_take (i := 6) (oi := { dst := some 103, op := Op.load 35 (Operand.tmp 15), type := 35, pos := "law.go:98", after := _, guard := none }) (v := ?vbr6) rfl (by kernel_rfl) (by kernel_rfl) (by kernel_rfl) (fun _ _ _ h => h) (Or.inl ⟨by rfl, ?hybr6⟩) (by assumption) ?restbr6
  case hybr6 => (intro w hSw; (try dsimp only at hSw); go_simp <;> with_reducible rfl)
  try simp only [Act.put, List.setIfInBounds_toArray, List.set_cons_zero, List.set_cons_succ]
  refine wpAnyH_take (i := 7) (oi := { dst := some 104, op := Op.binOp BinOp.neq 35 (Operand.tmp 102) (Operand.tmp 103) 35, type := 4, pos := "law.go:98", after := _, guard := none }) (v := ?vbr7) rfl (by kernel_rfl) (by kernel_rfl) (by kernel_rfl) (fun _ _ _ h => h) (Or.inl ⟨by rfl, ?hybr7⟩) (by assumption) ?restbr7
  case hybr7 => (intro w hSw; (try dsimp only at hSw); go_simp <;> with_reducible rfl)
  try simp only [Act.put, List.setIfInBounds_toArray, List.set_cons_zero, List.set_cons_succ]
  refine wpAnyH_done (by kernel_rfl) ?_ _
  clear nw gw
  go_upto_region 13 with fail
  have BW2 := (Below.refl w5.heap.size w5).drew.drew
  refine wp_region_held_drew (S := fun w' => w'.cell? ⟨w.heap.size, 0, none⟩ = some (.int .i64 cap0) ∧ w'.cell? ⟨w.heap.size, 1, none⟩ = some (.slice (some ⟨b0, o0, none⟩) ps0.length c0) ∧ w'.cell? ⟨w3.heap.size, 0, none⟩ = some (.int .i64 cap0) ∧ w'.cell? ⟨w3.heap.size, 1, none⟩ = some (.slice (some ⟨bA, oA, none⟩) qsA.length dA)) (by kernel_rfl) ?_ (fun hHeldcr => ?_)
  · exact ⟨(BW2.cell (p := ⟨w.heap.size, 0, none⟩) sl).trans cs0, (BW2.cell (p := ⟨w.heap.size, 1, none⟩) sl).trans cs1, (BW2.cell (p := ⟨w3.heap.size, 0, none⟩) al).trans ca0, (BW2.cell (p := ⟨w3.heap.size, 1, none⟩) al).trans ca1⟩
  refine wpAnyH_take (i := 0) (oi := { dst := some 105, op := Op.move (Operand.tmp 13), type := 3, pos := "law.go:101", after := _, guard := none }) (v := ?vcr0) rfl (by kernel_rfl) (by kernel_rfl) (by kernel_rfl) (fun _ _ _ h => h) (Or.inl ⟨by rfl, ?hycr0⟩) (by assumption) ?restcr0
  case hycr0 => (intro w hSw; (try dsimp only at hSw); go_simp <;> with_reducible rfl)
  try simp only [Act.put, List.setIfInBounds_toArray, List.set_cons_zero, List.set_cons_succ]
  refine wpAnyH_take (i := 1) (oi := { dst := some 106, op := Op.move (Operand.tmp 1), type := 3, pos := "law.go:101", after := _, guard := none }) (v := ?vcr1) rfl (by kernel_rfl) (by kernel_rfl) (by kernel_rfl) (fun _ _ _ h => h) (Or.inl ⟨by rfl, ?hycr1⟩) (by assumption) ?restcr1
  case hycr1 => (intro w hSw; (try dsimp only at hSw); go_simp <;> with_reducible rfl)
  try simp only [Act.put, List.setIfInBounds_toArray, List.set_cons_zero, List.set_cons_succ]
  refine wpAnyH_take (i := 2) (oi := { dst := some 107, op := Op.binOp BinOp.neq 3 (Operand.tmp 105) (Operand.tmp 106) 3, type := 4, pos := "law.go:101", after := _, guard := none }) (v := ?vcr2) rfl (by kernel_rfl) (by kernel_rfl) (by kernel_rfl) (fun _ _ _ h => h) (Or.inl ⟨by rfl, ?hycr2⟩) (by assumption) ?restcr2
  case hycr2 => (intro w hSw; (try dsimp only at hSw); go_simp <;> with_reducible rfl)
  try simp only [Act.put, List.setIfInBounds_toArray, List.set_cons_zero, List.set_cons_succ]
  refine wpAnyH_take (i := 3) (oi := { dst := some 108, op := Op.move (Operand.tmp 107), type := 4, pos := "law.go:101", after := _, guard := none }) (v := ?vcr3) rfl (by kernel_rfl) (by kernel_rfl) (by kernel_rfl) (fun _ _ _ h => h) (Or.inl ⟨by rfl, ?hycr3⟩) (by assumption) ?restcr3
  case hycr3 => (intro w hSw; (try dsimp only at hSw); go_simp <;> with_reducible rfl)
  try simp only [Act.put, List.setIfInBounds_toArray, List.set_cons_zero, List.set_cons_succ]
  refine wpAnyH_take (i := 4) (oi := { dst := some 109, op := Op.fieldAddr 25 (Operand.tmp 12) 1, type := 0, pos := "law.go:101", after := _, guard := some (3, true) }) rfl (by kernel_rfl) (by kernel_rfl) (by kernel_rfl) (fun _ _ _ h => h) (Or.inr ⟨by rfl, rfl⟩) (by assumption) ?_
  try simp only [Act.put, List.setIfInBounds_toArray, List.set_cons_zero, List.set_cons_succ]
  refine wpAnyH_take (i := 5) (oi := { dst := some 110, op := Op.load 23 (Operand.tmp 109), type := 23, pos := "law.go:101", after := _, guard := some (3, true) }) rfl (by kernel_rfl) (by kernel_rfl) (by kernel_rfl) (fun _ _ _ h => h) (Or.inr ⟨by rfl, rfl⟩) (by assumption) ?_
  try simp only [Act.put, List.setIfInBounds_toArray, List.set_cons_zero, List.set_cons_succ]
  refine wpAnyH_take (i := 6) (oi := { dst := some 111, op := Op.move (Operand.tmp 1), type := 3, pos := "law.go:101", after := _, guard := some (3, true) }) rfl (by kernel_rfl) (by kernel_rfl) (by kernel_rfl) (fun _ _ _ h => h) (Or.inr ⟨by rfl, rfl⟩) (by assumption) ?_
  try simp only [Act.put, List.setIfInBounds_toArray, List.set_cons_zero, List.set_cons_succ]
  refine wpAnyH_take (i := 7) (oi := { dst := some 112, op := Op.indexAddr 23 (Operand.tmp 110) (Operand.tmp 111), type := 0, pos := "law.go:101", after := _, guard := some (3, true) }) rfl (by kernel_rfl) (by kernel_rfl) (by kernel_rfl) (fun _ _ _ h => h) (Or.inr ⟨by rfl, rfl⟩) (by assumption) ?_
  try simp only [Act.put, List.setIfInBounds_toArray, List.set_cons_zero, List.set_cons_succ]
  refine wpAnyH_take (i := 8) (oi := { dst := some 113, op := Op.fieldAddr 37 (Operand.tmp 112) 1, type := 0, pos := "law.go:101", after := _, guard := some (3, true) }) rfl (by kernel_rfl) (by kernel_rfl) (by kernel_rfl) (fun _ _ _ h => h) (Or.inr ⟨by rfl, rfl⟩) (by assumption) ?_
  try simp only [Act.put, List.setIfInBounds_toArray, List.set_cons_zero, List.set_cons_succ]
  refine wpAnyH_take (i := 9) (oi := { dst := some 114, op := Op.load 35 (Operand.tmp 113), type := 35, pos := "law.go:101", after := _, guard := some (3, true) }) rfl (by kernel_rfl) (by kernel_rfl) (by kernel_rfl) (fun _ _ _ h => h) (Or.inr ⟨by rfl, rfl⟩) (by assumption) ?_
  try simp only [Act.put, List.setIfInBounds_toArray, List.set_cons_zero, List.set_cons_succ]
  refine wpAnyH_take (i := 10) (oi := { dst := some 115, op := Op.fieldAddr 25 (Operand.tmp 5) 1, type := 0, pos := "law.go:101", after := _, guard := some (3, true) }) rfl (by kernel_rfl) (by kernel_rfl) (by kernel_rfl) (fun _ _ _ h => h) (Or.inr ⟨by rfl, rfl⟩) (by assumption) ?_
  try simp only [Act.put, List.setIfInBounds_toArray, List.set_cons_zero, List.set_cons_succ]
  refine wpAnyH_take (i := 11) (oi := { dst := some 116, op := Op.load 23 (Operand.tmp 115), type := 23, pos := "law.go:101", after := _, guard := some (3, true) }) rfl (by kernel_rfl) (by kernel_rfl) (by kernel_rfl) (fun _ _ _ h => h) (Or.inr ⟨by rfl, rfl⟩) (by assumption) ?_
  try simp only [Act.put, List.setIfInBounds_toArray, List.set_cons_zero, List.set_cons_succ]
  refine wpAnyH_take (i := 12) (oi := { dst := some 117, op := Op.move (Operand.tmp 1), type := 3, pos := "law.go:101", after := _, guard := some (3, true) }) rfl (by kernel_rfl) (by kernel_rfl) (by kernel_rfl) (fun _ _ _ h => h) (Or.inr ⟨by rfl, rfl⟩) (by assumption) ?_
  try simp only [Act.put, List.setIfInBounds_toArray, List.set_cons_zero, List.set_cons_succ]
  refine wpAnyH_take (i := 13) (oi := { dst := some 118, op := Op.indexAddr 23 (Operand.tmp 116) (Operand.tmp 117), type := 0, pos := "law.go:101", after := _, guard := some (3, true) }) rfl (by kernel_rfl) (by kernel_rfl) (by kernel_rfl) (fun _ _ _ h => h) (Or.inr ⟨by rfl, rfl⟩) (by assumption) ?_
  try simp only [Act.put, List.setIfInBounds_toArray, List.set_cons_zero, List.set_cons_succ]
  refine wpAnyH_take (i := 14) (oi := { dst := some 119, op := Op.fieldAddr 37 (Operand.tmp 118) 1, type := 0, pos := "law.go:101", after := _, guard := some (3, true) }) rfl (by kernel_rfl) (by kernel_rfl) (by kernel_rfl) (fun _ _ _ h => h) (Or.inr ⟨by rfl, rfl⟩) (by assumption) ?_
  try simp only [Act.put, List.setIfInBounds_toArray, List.set_cons_zero, List.set_cons_succ]
  refine wpAnyH_take (i := 15) (oi := { dst := some 120, op := Op.load 35 (Operand.tmp 119), type := 35, pos := "law.go:101", after := _, guard := some (3, true) }) rfl (by kernel_rfl) (by kernel_rfl) (by kernel_rfl) (fun _ _ _ h => h) (Or.inr ⟨by rfl, rfl⟩) (by assumption) ?_
  try simp only [Act.put, List.setIfInBounds_toArray, List.set_cons_zero, List.set_cons_succ]
  refine wpAnyH_take (i := 16) (oi := { dst := some 121, op := Op.binOp BinOp.neq 35 (Operand.tmp 114) (Operand.tmp 120) 35, type := 4, pos := "law.go:101", after := _, guard := some (3, true) }) rfl (by kernel_rfl) (by kernel_rfl) (by kernel_rfl) (fun _ _ _ h => h) (Or.inr ⟨by rfl, rfl⟩) (by assumption) ?_
  try simp only [Act.put, List.setIfInBounds_toArray, List.set_cons_zero, List.set_cons_succ]
  refine wpAnyH_take (i := 17) (oi := { dst := some 122, op := Op.move (Operand.tmp 121), type := 4, pos := "law.go:101", after := _, guard := some (3, true) }) rfl (by kernel_rfl) (by kernel_rfl) (by kernel_rfl) (fun _ _ _ h => h) (Or.inr ⟨by rfl, rfl⟩) (by assumption) ?_
  try simp only [Act.put, List.setIfInBounds_toArray, List.set_cons_zero, List.set_cons_succ]
  refine wpAnyH_take (i := 18) (oi := { dst := some 123, op := Op.fieldAddr 25 (Operand.tmp 12) 1, type := 0, pos := "law.go:101", after := _, guard := some (17, false) }) rfl (by kernel_rfl) (by kernel_rfl) (by kernel_rfl) (fun _ _ _ h => h) (Or.inr ⟨by rfl, rfl⟩) (by assumption) ?_
  try simp only [Act.put, List.setIfInBounds_toArray, List.set_cons_zero, List.set_cons_succ]
  refine wpAnyH_take (i := 19) (oi := { dst := some 124, op := Op.load 23 (Operand.tmp 123), type := 23, pos := "law.go:101", after := _, guard := some (17, false) }) rfl (by kernel_rfl) (by kernel_rfl) (by kernel_rfl) (fun _ _ _ h => h) (Or.inr ⟨by rfl, rfl⟩) (by assumption) ?_
  try simp only [Act.put, List.setIfInBounds_toArray, List.set_cons_zero, List.set_cons_succ]
  refine wpAnyH_take (i := 20) (oi := { dst := some 125, op := Op.move (Operand.tmp 1), type := 3, pos := "law.go:101", after := _, guard := some (17, false) }) rfl (by kernel_rfl) (by kernel_rfl) (by kernel_rfl) (fun _ _ _ h => h) (Or.inr ⟨by rfl, rfl⟩) (by assumption) ?_
  try simp only [Act.put, List.setIfInBounds_toArray, List.set_cons_zero, List.set_cons_succ]
  refine wpAnyH_take (i := 21) (oi := { dst := some 126, op := Op.indexAddr 23 (Operand.tmp 124) (Operand.tmp 125), type := 0, pos := "law.go:101", after := _, guard := some (17, false) }) rfl (by kernel_rfl) (by kernel_rfl) (by kernel_rfl) (fun _ _ _ h => h) (Or.inr ⟨by rfl, rfl⟩) (by assumption) ?_
  try simp only [Act.put, List.setIfInBounds_toArray, List.set_cons_zero, List.set_cons_succ]
  refine wpAnyH_take (i := 22) (oi := { dst := some 127, op := Op.fieldAddr 37 (Operand.tmp 126) 0, type := 0, pos := "law.go:101", after := _, guard := some (17, false) }) rfl (by kernel_rfl) (by kernel_rfl) (by kernel_rfl) (fun _ _ _ h => h) (Or.inr ⟨by rfl, rfl⟩) (by assumption) ?_
  try simp only [Act.put, List.setIfInBounds_toArray, List.set_cons_zero, List.set_cons_succ]
  refine wpAnyH_take (i := 23) (oi := { dst := some 128, op := Op.load 3 (Operand.tmp 127), type := 3, pos := "law.go:101", after := _, guard := some (17, false) }) rfl (by kernel_rfl) (by kernel_rfl) (by kernel_rfl) (fun _ _ _ h => h) (Or.inr ⟨by rfl, rfl⟩) (by assumption) ?_
  try simp only [Act.put, List.setIfInBounds_toArray, List.set_cons_zero, List.set_cons_succ]
  refine wpAnyH_take (i := 24) (oi := { dst := some 129, op := Op.fieldAddr 25 (Operand.tmp 5) 1, type := 0, pos := "law.go:101", after := _, guard := some (17, false) }) rfl (by kernel_rfl) (by kernel_rfl) (by kernel_rfl) (fun _ _ _ h => h) (Or.inr ⟨by rfl, rfl⟩) (by assumption) ?_
  try simp only [Act.put, List.setIfInBounds_toArray, List.set_cons_zero, List.set_cons_succ]
  refine wpAnyH_take (i := 25) (oi := { dst := some 130, op := Op.load 23 (Operand.tmp 129), type := 23, pos := "law.go:101", after := _, guard := some (17, false) }) rfl (by kernel_rfl) (by kernel_rfl) (by kernel_rfl) (fun _ _ _ h => h) (Or.inr ⟨by rfl, rfl⟩) (by assumption) ?_
  try simp only [Act.put, List.setIfInBounds_toArray, List.set_cons_zero, List.set_cons_succ]
  refine wpAnyH_take (i := 26) (oi := { dst := some 131, op := Op.move (Operand.tmp 1), type := 3, pos := "law.go:101", after := _, guard := some (17, false) }) rfl (by kernel_rfl) (by kernel_rfl) (by kernel_rfl) (fun _ _ _ h => h) (Or.inr ⟨by rfl, rfl⟩) (by assumption) ?_
  try simp only [Act.put, List.setIfInBounds_toArray, List.set_cons_zero, List.set_cons_succ]
  refine wpAnyH_take (i := 27) (oi := { dst := some 132, op := Op.indexAddr 23 (Operand.tmp 130) (Operand.tmp 131), type := 0, pos := "law.go:101", after := _, guard := some (17, false) }) rfl (by kernel_rfl) (by kernel_rfl) (by kernel_rfl) (fun _ _ _ h => h) (Or.inr ⟨by rfl, rfl⟩) (by assumption) ?_
  try simp only [Act.put, List.setIfInBounds_toArray, List.set_cons_zero, List.set_cons_succ]
  refine wpAnyH_take (i := 28) (oi := { dst := some 133, op := Op.fieldAddr 37 (Operand.tmp 132) 0, type := 0, pos := "law.go:101", after := _, guard := some (17, false) }) rfl (by kernel_rfl) (by kernel_rfl) (by kernel_rfl) (fun _ _ _ h => h) (Or.inr ⟨by rfl, rfl⟩) (by assumption) ?_
  try simp only [Act.put, List.setIfInBounds_toArray, List.set_cons_zero, List.set_cons_succ]
  refine wpAnyH_take (i := 29) (oi := { dst := some 134, op := Op.load 3 (Operand.tmp 133), type := 3, pos := "law.go:101", after := _, guard := some (17, false) }) rfl (by kernel_rfl) (by kernel_rfl) (by kernel_rfl) (fun _ _ _ h => h) (Or.inr ⟨by rfl, rfl⟩) (by assumption) ?_
  try simp only [Act.put, List.setIfInBounds_toArray, List.set_cons_zero, List.set_cons_succ]
  refine wpAnyH_take (i := 30) (oi := { dst := some 135, op := Op.binOp BinOp.sub 3 (Operand.tmp 134) (Operand.const (Value.int IntKind.i64 1)) 3, type := 3, pos := "law.go:101", after := _, guard := some (17, false) }) rfl (by kernel_rfl) (by kernel_rfl) (by kernel_rfl) (fun _ _ _ h => h) (Or.inr ⟨by rfl, rfl⟩) (by assumption) ?_
  try simp only [Act.put, List.setIfInBounds_toArray, List.set_cons_zero, List.set_cons_succ]
  refine wpAnyH_take (i := 31) (oi := { dst := some 136, op := Op.binOp BinOp.neq 3 (Operand.tmp 128) (Operand.tmp 135) 3, type := 4, pos := "law.go:101", after := _, guard := some (17, false) }) rfl (by kernel_rfl) (by kernel_rfl) (by kernel_rfl) (fun _ _ _ h => h) (Or.inr ⟨by rfl, rfl⟩) (by assumption) ?_
  try simp only [Act.put, List.setIfInBounds_toArray, List.set_cons_zero, List.set_cons_succ]
  refine wpAnyH_take (i := 32) (oi := { dst := some 137, op := Op.pick (Operand.tmp 122) (Operand.const (Value.bool true)) (Operand.tmp 136), type := 4, pos := "law.go:101", after := _, guard := some (3, true) }) rfl (by kernel_rfl) (by kernel_rfl) (by kernel_rfl) (fun _ _ _ h => h) (Or.inr ⟨by rfl, rfl⟩) (by assumption) ?_
  try simp only [Act.put, List.setIfInBounds_toArray, List.set_cons_zero, List.set_cons_succ]
  refine wpAnyH_take (i := 33) (oi := { dst := some 138, op := Op.pick (Operand.tmp 108) (Operand.tmp 137) (Operand.const (Value.bool false)), type := 4, pos := "law.go:101", after := _, guard := none }) (v := ?vcr33) rfl (by kernel_rfl) (by kernel_rfl) (by kernel_rfl) (fun _ _ _ h => h) (Or.inl ⟨by rfl, ?hycr33⟩) (by assumption) ?restcr33
  case hycr33 => (intro w hSw; (try dsimp only at hSw); go_simp <;> with_reducible rfl)
  try simp only [Act.put, List.setIfInBounds_toArray, List.set_cons_zero, List.set_cons_succ]
  refine wpAnyH_done (by kernel_rfl) ?_ _
  go_upto_region 15 with fail
  by_cases k1 : k < 0
  · skip
    have BW3 := (Below.refl w5.heap.size w5).drew.drew.drew
    refine wp_region_held_drew (S := fun w' => w'.cell? ⟨w.heap.size, 0, none⟩ = some (.int .i64 cap0) ∧ w'.cell? ⟨w.heap.size, 1, none⟩ = some (.slice (some ⟨b0, o0, none⟩) ps0.length c0) ∧ w'.cell? ⟨w3.heap.size, 0, none⟩ = some (.int .i64 cap0) ∧ w'.cell? ⟨w3.heap.size, 1, none⟩ = some (.slice (some ⟨bA, oA, none⟩) qsA.length dA)) (by kernel_rfl) ?_ (fun hHelddr => ?_)
    · exact ⟨(BW3.cell (p := ⟨w.heap.size, 0, none⟩) sl).trans cs0, (BW3.cell (p := ⟨w.heap.size, 1, none⟩) sl).trans cs1, (BW3.cell (p := ⟨w3.heap.size, 0, none⟩) al).trans ca0, (BW3.cell (p := ⟨w3.heap.size, 1, none⟩) al).trans ca1⟩
    refine wpAnyH_take (i := 0) (oi := { dst := some 139, op := Op.move (Operand.tmp 4), type := 3, pos := "law.go:104", after := _, guard := none }) (v := ?vdr0) rfl (by kernel_rfl) (by kernel_rfl) (by kernel_rfl) (fun _ _ _ h => h) (Or.inl ⟨by rfl, ?hydr0⟩) (by assumption) ?restdr0
    case hydr0 => (intro w hSw; (try dsimp only at hSw); go_simp <;> with_reducible rfl)
    try simp only [Act.put, List.setIfInBounds_toArray, List.set_cons_zero, List.set_cons_succ]
    refine wpAnyH_take (i := 1) (oi := { dst := some 140, op := Op.binOp BinOp.lss 3 (Operand.tmp 139) (Operand.const (Value.int IntKind.i64 0)) 3, type := 4, pos := "law.go:104", after := _, guard := none }) (v := ?vdr1) rfl (by kernel_rfl) (by kernel_rfl) (by kernel_rfl) (fun _ _ _ h => h) (Or.inl ⟨by rfl, ?hydr1⟩) (by assumption) ?restdr1
    case hydr1 => (intro w hSw; (try dsimp only at hSw); go_simp <;> with_reducible rfl)
    try simp only [Act.put, List.setIfInBounds_toArray, List.set_cons_zero, List.set_cons_succ]
    refine wpAnyH_take (i := 2) (oi := { dst := some 141, op := Op.move (Operand.tmp 140), type := 4, pos := "law.go:104", after := _, guard := none }) (v := ?vdr2) rfl (by kernel_rfl) (by kernel_rfl) (by kernel_rfl) (fun _ _ _ h => h) (Or.inl ⟨by rfl, ?hydr2⟩) (by assumption) ?restdr2
    case hydr2 => (intro w hSw; (try dsimp only at hSw); go_simp <;> with_reducible rfl)
    try simp only [Act.put, List.setIfInBounds_toArray, List.set_cons_zero, List.set_cons_succ]
    refine wpAnyH_take (i := 3) (oi := { dst := some 142, op := Op.move (Operand.tmp 4), type := 3, pos := "law.go:104", after := _, guard := some (2, false) }) rfl (by kernel_rfl) (by kernel_rfl) (by kernel_rfl) (fun _ _ _ h => h) (Or.inr ⟨by rfl, rfl⟩) (by assumption) ?_
    try simp only [Act.put, List.setIfInBounds_toArray, List.set_cons_zero, List.set_cons_succ]
    refine wpAnyH_take (i := 4) (oi := { dst := some 143, op := Op.fieldAddr 25 (Operand.tmp 5) 1, type := 0, pos := "law.go:104", after := _, guard := some (2, false) }) rfl (by kernel_rfl) (by kernel_rfl) (by kernel_rfl) (fun _ _ _ h => h) (Or.inr ⟨by rfl, rfl⟩) (by assumption) ?_
    try simp only [Act.put, List.setIfInBounds_toArray, List.set_cons_zero, List.set_cons_succ]
    refine wpAnyH_take (i := 5) (oi := { dst := some 144, op := Op.load 23 (Operand.tmp 143), type := 23, pos := "law.go:104", after := _, guard := some (2, false) }) rfl (by kernel_rfl) (by kernel_rfl) (by kernel_rfl) (fun _ _ _ h => h) (Or.inr ⟨by rfl, rfl⟩) (by assumption) ?_
    try simp only [Act.put, List.setIfInBounds_toArray, List.set_cons_zero, List.set_cons_succ]
    refine wpAnyH_take (i := 6) (oi := { dst := some 145, op := Op.call { callee := Callee.builtin Builtin.len, args := #[Operand.tmp 144], argTypes := #[23] }, type := 3, pos := "law.go:104", after := _, guard := some (2, false) }) rfl (by kernel_rfl) (by kernel_rfl) (by kernel_rfl) (fun _ _ _ h => h) (Or.inr ⟨by rfl, rfl⟩) (by assumption) ?_
    try simp only [Act.put, List.setIfInBounds_toArray, List.set_cons_zero, List.set_cons_succ]
    refine wpAnyH_take (i := 7) (oi := { dst := some 146, op := Op.binOp BinOp.geq 3 (Operand.tmp 142) (Operand.tmp 145) 3, type := 4, pos := "law.go:104", after := _, guard := some (2, false) }) rfl (by kernel_rfl) (by kernel_rfl) (by kernel_rfl) (fun _ _ _ h => h) (Or.inr ⟨by rfl, rfl⟩) (by assumption) ?_
    try simp only [Act.put, List.setIfInBounds_toArray, List.set_cons_zero, List.set_cons_succ]
    refine wpAnyH_take (i := 8) (oi := { dst := some 147, op := Op.pick (Operand.tmp 141) (Operand.const (Value.bool true)) (Operand.tmp 146), type := 4, pos := "law.go:104", after := _, guard := none }) (v := ?vdr8) rfl (by kernel_rfl) (by kernel_rfl) (by kernel_rfl) (fun _ _ _ h => h) (Or.inl ⟨by rfl, ?hydr8⟩) (by assumption) ?restdr8
    case hydr8 => (intro w hSw; (try dsimp only at hSw); go_simp <;> with_reducible rfl)
    try simp only [Act.put, List.setIfInBounds_toArray, List.set_cons_zero, List.set_cons_succ]
    refine wpAnyH_take (i := 9) (oi := { dst := some 148, op := Op.move (Operand.tmp 147), type := 4, pos := "law.go:104", after := _, guard := none }) (v := ?vdr9) rfl (by kernel_rfl) (by kernel_rfl) (by kernel_rfl) (fun _ _ _ h => h) (Or.inl ⟨by rfl, ?hydr9⟩) (by assumption) ?restdr9
    case hydr9 => (intro w hSw; (try dsimp only at hSw); go_simp <;> with_reducible rfl)
    try simp only [Act.put, List.setIfInBounds_toArray, List.set_cons_zero, List.set_cons_succ]
    refine wpAnyH_take (i := 10) (oi := { dst := some 149, op := Op.move (Operand.tmp 4), type := 3, pos := "law.go:104", after := _, guard := some (9, false) }) rfl (by kernel_rfl) (by kernel_rfl) (by kernel_rfl) (fun _ _ _ h => h) (Or.inr ⟨by rfl, rfl⟩) (by assumption) ?_
    try simp only [Act.put, List.setIfInBounds_toArray, List.set_cons_zero, List.set_cons_succ]
    refine wpAnyH_take (i := 11) (oi := { dst := some 150, op := Op.move (Operand.tmp 1), type := 3, pos := "law.go:104", after := _, guard := some (9, false) }) rfl (by kernel_rfl) (by kernel_rfl) (by kernel_rfl) (fun _ _ _ h => h) (Or.inr ⟨by rfl, rfl⟩) (by assumption) ?_
    try simp only [Act.put, List.setIfInBounds_toArray, List.set_cons_zero, List.set_cons_succ]
    refine wpAnyH_take (i := 12) (oi := { dst := some 151, op := Op.binOp BinOp.eql 3 (Operand.tmp 149) (Operand.tmp 150) 3, type := 4, pos := "law.go:104", after := _, guard := some (9, false) }) rfl (by kernel_rfl) (by kernel_rfl) (by kernel_rfl) (fun _ _ _ h => h) (Or.inr ⟨by rfl, rfl⟩) (by assumption) ?_
    try simp only [Act.put, List.setIfInBounds_toArray, List.set_cons_zero, List.set_cons_succ]
    refine wpAnyH_take (i := 13) (oi := { dst := some 152, op := Op.pick (Operand.tmp 148) (Operand.const (Value.bool true)) (Operand.tmp 151), type := 4, pos := "law.go:104", after := _, guard := none }) (v := ?vdr13) rfl (by kernel_rfl) (by kernel_rfl) (by kernel_rfl) (fun _ _ _ h => h) (Or.inl ⟨by rfl, ?hydr13⟩) (by assumption) ?restdr13
    case hydr13 => (intro w hSw; (try dsimp only at hSw); go_simp <;> with_reducible rfl)
    try simp only [Act.put, List.setIfInBounds_toArray, List.set_cons_zero, List.set_cons_succ]
    refine wpAnyH_take (i := 14) (oi := { dst := some 153, op := Op.move (Operand.tmp 152), type := 4, pos := "law.go:104", after := _, guard := none }) (v := ?vdr14) rfl (by kernel_rfl) (by kernel_rfl) (by kernel_rfl) (fun _ _ _ h => h) (Or.inl ⟨by rfl, ?hydr14⟩) (by assumption) ?restdr14
    case hydr14 => (intro w hSw; (try dsimp only at hSw); go_simp <;> with_reducible rfl)
    try simp only [Act.put, List.setIfInBounds_toArray, List.set_cons_zero, List.set_cons_succ]
    refine wpAnyH_take (i := 15) (oi := { dst := some 154, op := Op.move (Operand.tmp 4), type := 3, pos := "law.go:104", after := _, guard := some (14, false) }) rfl (by kernel_rfl) (by kernel_rfl) (by kernel_rfl) (fun _ _ _ h => h) (Or.inr ⟨by rfl, rfl⟩) (by assumption) ?_
    try simp only [Act.put, List.setIfInBounds_toArray, List.set_cons_zero, List.set_cons_succ]
    refine wpAnyH_take (i := 16) (oi := { dst := some 155, op := Op.move (Operand.tmp 13), type := 3, pos := "law.go:104", after := _, guard := some (14, false) }) rfl (by kernel_rfl) (by kernel_rfl) (by kernel_rfl) (fun _ _ _ h => h) (Or.inr ⟨by rfl, rfl⟩) (by assumption) ?_
    try simp only [Act.put, List.setIfInBounds_toArray, List.set_cons_zero, List.set_cons_succ]
    refine wpAnyH_take (i := 17) (oi := { dst := some 156, op := Op.binOp BinOp.eql 3 (Operand.tmp 154) (Operand.tmp 155) 3, type := 4, pos := "law.go:104", after := _, guard := some (14, false) }) rfl (by kernel_rfl) (by kernel_rfl) (by kernel_rfl) (fun _ _ _ h => h) (Or.inr ⟨by rfl, rfl⟩) (by assumption) ?_
    try simp only [Act.put, List.setIfInBounds_toArray, List.set_cons_zero, List.set_cons_succ]
    refine wpAnyH_take (i := 18) (oi := { dst := some 157, op := Op.pick (Operand.tmp 153) (Operand.const (Value.bool true)) (Operand.tmp 156), type := 4, pos := "law.go:104", after := _, guard := none }) (v := ?vdr18) rfl (by kernel_rfl) (by kernel_rfl) (by kernel_rfl) (fun _ _ _ h => h) (Or.inl ⟨by rfl, ?hydr18⟩) (by assumption) ?restdr18
    case hydr18 => (intro w hSw; (try dsimp only at hSw); go_simp <;> with_reducible rfl)
    try simp only [Act.put, List.setIfInBounds_toArray, List.set_cons_zero, List.set_cons_succ]
    refine wpAnyH_take (i := 19) (oi := { dst := some 158, op := Op.move (Operand.tmp 157), type := 4, pos := "law.go:104", after := _, guard := none }) (v := ?vdr19) rfl (by kernel_rfl) (by kernel_rfl) (by kernel_rfl) (fun _ _ _ h => h) (Or.inl ⟨by rfl, ?hydr19⟩) (by assumption) ?restdr19
    case hydr19 => (intro w hSw; (try dsimp only at hSw); go_simp <;> with_reducible rfl)
    try simp only [Act.put, List.setIfInBounds_toArray, List.set_cons_zero, List.set_cons_succ]
    refine wpAnyH_take (i := 20) (oi := { dst := some 159, op := Op.fieldAddr 25 (Operand.tmp 12) 1, type := 0, pos := "law.go:104", after := _, guard := some (19, false) }) rfl (by kernel_rfl) (by kernel_rfl) (by kernel_rfl) (fun _ _ _ h => h) (Or.inr ⟨by rfl, rfl⟩) (by assumption) ?_
    try simp only [Act.put, List.setIfInBounds_toArray, List.set_cons_zero, List.set_cons_succ]
    refine wpAnyH_take (i := 21) (oi := { dst := some 160, op := Op.load 23 (Operand.tmp 159), type := 23, pos := "law.go:104", after := _, guard := some (19, false) }) rfl (by kernel_rfl) (by kernel_rfl) (by kernel_rfl) (fun _ _ _ h => h) (Or.inr ⟨by rfl, rfl⟩) (by assumption) ?_
    try simp only [Act.put, List.setIfInBounds_toArray, List.set_cons_zero, List.set_cons_succ]
    refine wpAnyH_take (i := 22) (oi := { dst := some 161, op := Op.move (Operand.tmp 4), type := 3, pos := "law.go:104", after := _, guard := some (19, false) }) rfl (by kernel_rfl) (by kernel_rfl) (by kernel_rfl) (fun _ _ _ h => h) (Or.inr ⟨by rfl, rfl⟩) (by assumption) ?_
    try simp only [Act.put, List.setIfInBounds_toArray, List.set_cons_zero, List.set_cons_succ]
    refine wpAnyH_take (i := 23) (oi := { dst := some 162, op := Op.indexAddr 23 (Operand.tmp 160) (Operand.tmp 161), type := 0, pos := "law.go:104", after := _, guard := some (19, false) }) rfl (by kernel_rfl) (by kernel_rfl) (by kernel_rfl) (fun _ _ _ h => h) (Or.inr ⟨by rfl, rfl⟩) (by assumption) ?_
    try simp only [Act.put, List.setIfInBounds_toArray, List.set_cons_zero, List.set_cons_succ]
    refine wpAnyH_take (i := 24) (oi := { dst := some 163, op := Op.load 37 (Operand.tmp 162), type := 37, pos := "law.go:104", after := _, guard := some (19, false) }) rfl (by kernel_rfl) (by kernel_rfl) (by kernel_rfl) (fun _ _ _ h => h) (Or.inr ⟨by rfl, rfl⟩) (by assumption) ?_
    try simp only [Act.put, List.setIfInBounds_toArray, List.set_cons_zero, List.set_cons_succ]
    refine wpAnyH_take (i := 25) (oi := { dst := some 164, op := Op.fieldAddr 25 (Operand.tmp 5) 1, type := 0, pos := "law.go:104", after := _, guard := some (19, false) }) rfl (by kernel_rfl) (by kernel_rfl) (by kernel_rfl) (fun _ _ _ h => h) (Or.inr ⟨by rfl, rfl⟩) (by assumption) ?_
    try simp only [Act.put, List.setIfInBounds_toArray, List.set_cons_zero, List.set_cons_succ]
    refine wpAnyH_take (i := 26) (oi := { dst := some 165, op := Op.load 23 (Operand.tmp 164), type := 23, pos := "law.go:104", after := _, guard := some (19, false) }) rfl (by kernel_rfl) (by kernel_rfl) (by kernel_rfl) (fun _ _ _ h => h) (Or.inr ⟨by rfl, rfl⟩) (by assumption) ?_
    try simp only [Act.put, List.setIfInBounds_toArray, List.set_cons_zero, List.set_cons_succ]
    refine wpAnyH_take (i := 27) (oi := { dst := some 166, op := Op.move (Operand.tmp 4), type := 3, pos := "law.go:104", after := _, guard := some (19, false) }) rfl (by kernel_rfl) (by kernel_rfl) (by kernel_rfl) (fun _ _ _ h => h) (Or.inr ⟨by rfl, rfl⟩) (by assumption) ?_
    try simp only [Act.put, List.setIfInBounds_toArray, List.set_cons_zero, List.set_cons_succ]
    refine wpAnyH_take (i := 28) (oi := { dst := some 167, op := Op.indexAddr 23 (Operand.tmp 165) (Operand.tmp 166), type := 0, pos := "law.go:104", after := _, guard := some (19, false) }) rfl (by kernel_rfl) (by kernel_rfl) (by kernel_rfl) (fun _ _ _ h => h) (Or.inr ⟨by rfl, rfl⟩) (by assumption) ?_
    try simp only [Act.put, List.setIfInBounds_toArray, List.set_cons_zero, List.set_cons_succ]
    refine wpAnyH_take (i := 29) (oi := { dst := some 168, op := Op.load 37 (Operand.tmp 167), type := 37, pos := "law.go:104", after := _, guard := some (19, false) }) rfl (by kernel_rfl) (by kernel_rfl) (by kernel_rfl) (fun _ _ _ h => h) (Or.inr ⟨by rfl, rfl⟩) (by assumption) ?_
    try simp only [Act.put, List.setIfInBounds_toArray, List.set_cons_zero, List.set_cons_succ]
    refine wpAnyH_take (i := 30) (oi := { dst := some 169, op := Op.binOp BinOp.eql 37 (Operand.tmp 163) (Operand.tmp 168) 37, type := 4, pos := "law.go:104", after := _, guard := some (19, false) }) rfl (by kernel_rfl) (by kernel_rfl) (by kernel_rfl) (fun _ _ _ h => h) (Or.inr ⟨by rfl, rfl⟩) (by assumption) ?_
    try simp only [Act.put, List.setIfInBounds_toArray, List.set_cons_zero, List.set_cons_succ]
    refine wpAnyH_take (i := 31) (oi := { dst := some 170, op := Op.pick (Operand.tmp 158) (Operand.const (Value.bool true)) (Operand.tmp 169), type := 4, pos := "law.go:104", after := _, guard := none }) (v := ?vdr31) rfl (by kernel_rfl) (by kernel_rfl) (by kernel_rfl) (fun _ _ _ h => h) (Or.inl ⟨by rfl, ?hydr31⟩) (by assumption) ?restdr31
    case hydr31 => (intro w hSw; (try dsimp only at hSw); go_simp <;> with_reducible rfl)
    try simp only [Act.put, List.setIfInBounds_toArray, List.set_cons_zero, List.set_cons_succ]
    refine wpAnyH_ready (rs := [32]) (by kernel_rfl) (by simp) ?_
    refine AllReadyH.cons (o := { dst := some 10, op := Op.assign (Operand.tmp 170), type := 4, pos := "law.go:104", after := _, guard := none }) rfl (fun K hK => ?_) AllReadyH.nil
    go_simp
    skip
    refine hK.out _ _ ?_ (fun hHelddr32 => ?_)
    · exact ⟨(BW3.cell (p := ⟨w.heap.size, 0, none⟩) sl).trans cs0, (BW3.cell (p := ⟨w.heap.size, 1, none⟩) sl).trans cs1, (BW3.cell (p := ⟨w3.heap.size, 0, none⟩) al).trans ca0, (BW3.cell (p := ⟨w3.heap.size, 1, none⟩) al).trans ca1⟩
    clear hK K hHelddr
    try simp only [Act.put, List.setIfInBounds_toArray, List.set_cons_zero, List.set_cons_succ]
    refine wpAnyH_done (by kernel_rfl) ?_ _
    go_wp2
    go_ret
    exact ⟨rfl, hY5.trans (BW3.mono hY5.size)⟩
  by_cases k2 : (ps0.length : Int) ≤ k
  · skip
    have BW3 := (Below.refl w5.heap.size w5).drew.drew.drew
    refine wp_region_held_drew (S := fun w' => w'.cell? ⟨w.heap.size, 0, none⟩ = some (.int .i64 cap0) ∧ w'.cell? ⟨w.heap.size, 1, none⟩ = some (.slice (some ⟨b0, o0, none⟩) ps0.length c0) ∧ w'.cell? ⟨w3.heap.size, 0, none⟩ = some (.int .i64 cap0) ∧ w'.cell? ⟨w3.heap.size, 1, none⟩ = some (.slice (some ⟨bA, oA, none⟩) qsA.length dA)) (by kernel_rfl) ?_ (fun hHelder => ?_)
    · exact ⟨(BW3.cell (p := ⟨w.heap.size, 0, none⟩) sl).trans cs0, (BW3.cell (p := ⟨w.heap.size, 1, none⟩) sl).trans cs1, (BW3.cell (p := ⟨w3.heap.size, 0, none⟩) al).trans ca0, (BW3.cell (p := ⟨w3.heap.size, 1, none⟩) al).trans ca1⟩
    refine wpAnyH_take (i := 0) (oi := { dst := some 139, op := Op.move (Operand.tmp 4), type := 3, pos := "law.go:104", after := _, guard := none }) (v := ?ver0) rfl (by kernel_rfl) (by kernel_rfl) (by kernel_rfl) (fun _ _ _ h => h) (Or.inl ⟨by rfl, ?hyer0⟩) (by assumption) ?rester0
    case hyer0 => (intro w hSw; (try dsimp only at hSw); go_simp <;> with_reducible rfl)
    try simp only [Act.put, List.setIfInBounds_toArray, List.set_cons_zero, List.set_cons_succ]
    refine wpAnyH_take (i := 1) (oi := { dst := some 140, op := Op.binOp BinOp.lss 3 (Operand.tmp 139) (Operand.const (Value.int IntKind.i64 0)) 3, type := 4, pos := "law.go:104", after := _, guard := none }) (v := .bool false) rfl (by kernel_rfl) (by kernel_rfl) (by kernel_rfl) (fun _ _ _ h => h) (Or.inl ⟨by rfl, ?hyer1⟩) (by assumption) ?rester1
    case hyer1 => (intro w hSw; (try dsimp only at hSw); go_simp <;> first | done | with_reducible rfl | omega | (simp; done) | (simp; omega) | (simp [*]; done) | (simp [*]; omega) | exact decide_eq_false (by omega) | exact decide_eq_true (by omega))
    try simp only [Act.put, List.setIfInBounds_toArray, List.set_cons_zero, List.set_cons_succ]
    refine wpAnyH_take (i := 2) (oi := { dst := some 141, op := Op.move (Operand.tmp 140), type := 4, pos := "law.go:104", after := _, guard := none }) (v := ?ver2) rfl (by kernel_rfl) (by kernel_rfl) (by kernel_rfl) (fun _ _ _ h => h) (Or.inl ⟨by rfl, ?hyer2⟩) (by assumption) ?rester2
    case hyer2 => (intro w hSw; (try dsimp only at hSw); go_simp <;> with_reducible rfl)
    try simp only [Act.put, List.setIfInBounds_toArray, List.set_cons_zero, List.set_cons_succ]
    refine wpAnyH_take (i := 3) (oi := { dst := some 142, op := Op.move (Operand.tmp 4), type := 3, pos := "law.go:104", after := _, guard := some (2, false) }) (v := ?ver3) rfl (by kernel_rfl) (by kernel_rfl) (by kernel_rfl) (fun _ _ _ h => h) (Or.inl ⟨by rfl, ?hyer3⟩) (by assumption) ?rester3
    case hyer3 => (intro w hSw; (try dsimp only at hSw); go_simp <;> with_reducible rfl)
    try simp only [Act.put, List.setIfInBounds_toArray, List.set_cons_zero, List.set_cons_succ]
    refine wpAnyH_take (i := 4) (oi := { dst := some 143, op := Op.fieldAddr 25 (Operand.tmp 5) 1, type := 0, pos := "law.go:104", after := _, guard := some (2, false) }) (v := ?ver4) rfl (by kernel_rfl) (by kernel_rfl) (by kernel_rfl) (fun _ _ _ h => h) (Or.inl ⟨by rfl, ?hyer4⟩) (by assumption) ?rester4
    case hyer4 => (intro w hSw; (try dsimp only at hSw); go_simp <;> with_reducible rfl)
    try simp only [Act.put, List.setIfInBounds_toArray, List.set_cons_zero, List.set_cons_succ]
    refine wpAnyH_take (i := 5) (oi := { dst := some 144, op := Op.load 23 (Operand.tmp 143), type := 23, pos := "law.go:104", after := _, guard := some (2, false) }) (v := ?ver5) rfl (by kernel_rfl) (by kernel_rfl) (by kernel_rfl) (fun _ _ _ h => h) (Or.inl ⟨by rfl, ?hyer5⟩) (by assumption) ?rester5
    case hyer5 => (intro w hSw; (try dsimp only at hSw); go_simp <;> with_reducible rfl)
    try simp only [Act.put, List.setIfInBounds_toArray, List.set_cons_zero, List.set_cons_succ]
    refine wpAnyH_take (i := 6) (oi := { dst := some 145, op := Op.call { callee := Callee.builtin Builtin.len, args := #[Operand.tmp 144], argTypes := #[23] }, type := 3, pos := "law.go:104", after := _, guard := some (2, false) }) (v := ?ver6) rfl (by kernel_rfl) (by kernel_rfl) (by kernel_rfl) (fun _ _ _ h => h) (Or.inl ⟨by rfl, ?hyer6⟩) (by assumption) ?rester6
    case hyer6 => (intro w hSw; (try dsimp only at hSw); go_simp <;> with_reducible rfl)
    try simp only [Act.put, List.setIfInBounds_toArray, List.set_cons_zero, List.set_cons_succ]
    refine wpAnyH_take (i := 7) (oi := { dst := some 146, op := Op.binOp BinOp.geq 3 (Operand.tmp 142) (Operand.tmp 145) 3, type := 4, pos := "law.go:104", after := _, guard := some (2, false) }) (v := .bool true) rfl (by kernel_rfl) (by kernel_rfl) (by kernel_rfl) (fun _ _ _ h => h) (Or.inl ⟨by rfl, ?hyer7⟩) (by assumption) ?rester7
    case hyer7 => (intro w hSw; (try dsimp only at hSw); go_simp <;> first | done | with_reducible rfl | omega | (simp; done) | (simp; omega) | (simp [*]; done) | (simp [*]; omega) | exact decide_eq_false (by omega) | exact decide_eq_true (by omega))
    try simp only [Act.put, List.setIfInBounds_toArray, List.set_cons_zero, List.set_cons_succ]
    refine wpAnyH_take (i := 8) (oi := { dst := some 147, op := Op.pick (Operand.tmp 141) (Operand.const (Value.bool true)) (Operand.tmp 146), type := 4, pos := "law.go:104", after := _, guard := none }) (v := ?ver8) rfl (by kernel_rfl) (by kernel_rfl) (by kernel_rfl) (fun _ _ _ h => h) (Or.inl ⟨by rfl, ?hyer8⟩) (by assumption) ?rester8
    case hyer8 => (intro w hSw; (try dsimp only at hSw); go_simp <;> with_reducible rfl)
    try simp only [Act.put, List.setIfInBounds_toArray, List.set_cons_zero, List.set_cons_succ]
    refine wpAnyH_take (i := 9) (oi := { dst := some 148, op := Op.move (Operand.tmp 147), type := 4, pos := "law.go:104", after := _, guard := none }) (v := ?ver9) rfl (by kernel_rfl) (by kernel_rfl) (by kernel_rfl) (fun _ _ _ h => h) (Or.inl ⟨by rfl, ?hyer9⟩) (by assumption) ?rester9
    case hyer9 => (intro w hSw; (try dsimp only at hSw); go_simp <;> with_reducible rfl)
    try simp only [Act.put, List.setIfInBounds_toArray, List.set_cons_zero, List.set_cons_succ]
    refine wpAnyH_take (i := 10) (oi := { dst := some 149, op := Op.move (Operand.tmp 4), type := 3, pos := "law.go:104", after := _, guard := some (9, false) }) rfl (by kernel_rfl) (by kernel_rfl) (by kernel_rfl) (fun _ _ _ h => h) (Or.inr ⟨by rfl, rfl⟩) (by assumption) ?_
    try simp only [Act.put, List.setIfInBounds_toArray, List.set_cons_zero, List.set_cons_succ]
    refine wpAnyH_take (i := 11) (oi := { dst := some 150, op := Op.move (Operand.tmp 1), type := 3, pos := "law.go:104", after := _, guard := some (9, false) }) rfl (by kernel_rfl) (by kernel_rfl) (by kernel_rfl) (fun _ _ _ h => h) (Or.inr ⟨by rfl, rfl⟩) (by assumption) ?_
    try simp only [Act.put, List.setIfInBounds_toArray, List.set_cons_zero, List.set_cons_succ]
    refine wpAnyH_take (i := 12) (oi := { dst := some 151, op := Op.binOp BinOp.eql 3 (Operand.tmp 149) (Operand.tmp 150) 3, type := 4, pos := "law.go:104", after := _, guard := some (9, false) }) rfl (by kernel_rfl) (by kernel_rfl) (by kernel_rfl) (fun _ _ _ h => h) (Or.inr ⟨by rfl, rfl⟩) (by assumption) ?_
    try simp only [Act.put, List.setIfInBounds_toArray, List.set_cons_zero, List.set_cons_succ]
    refine wpAnyH_take (i := 13) (oi := { dst := some 152, op := Op.pick (Operand.tmp 148) (Operand.const (Value.bool true)) (Operand.tmp 151), type := 4, pos := "law.go:104", after := _, guard := none }) (v := ?ver13) rfl (by kernel_rfl) (by kernel_rfl) (by kernel_rfl) (fun _ _ _ h => h) (Or.inl ⟨by rfl, ?hyer13⟩) (by assumption) ?rester13
    case hyer13 => (intro w hSw; (try dsimp only at hSw); go_simp <;> with_reducible rfl)
    try simp only [Act.put, List.setIfInBounds_toArray, List.set_cons_zero, List.set_cons_succ]
    refine wpAnyH_take (i := 14) (oi := { dst := some 153, op := Op.move (Operand.tmp 152), type := 4, pos := "law.go:104", after := _, guard := none }) (v := ?ver14) rfl (by kernel_rfl) (by kernel_rfl) (by kernel_rfl) (fun _ _ _ h => h) (Or.inl ⟨by rfl, ?hyer14⟩) (by assumption) ?rester14
    case hyer14 => (intro w hSw; (try dsimp only at hSw); go_simp <;> with_reducible rfl)
    try simp only [Act.put, List.setIfInBounds_toArray, List.set_cons_zero, List.set_cons_succ]
    refine wpAnyH_take (i := 15) (oi := { dst := some 154, op := Op.move (Operand.tmp 4), type := 3, pos := "law.go:104", after := _, guard := some (14, false) }) rfl (by kernel_rfl) (by kernel_rfl) (by kernel_rfl) (fun _ _ _ h => h) (Or.inr ⟨by rfl, rfl⟩) (by assumption) ?_
    try simp only [Act.put, List.setIfInBounds_toArray, List.set_cons_zero, List.set_cons_succ]
    refine wpAnyH_take (i := 16) (oi := { dst := some 155, op := Op.move (Operand.tmp 13), type := 3, pos := "law.go:104", after := _, guard := some (14, false) }) rfl (by kernel_rfl) (by kernel_rfl) (by kernel_rfl) (fun _ _ _ h => h) (Or.inr ⟨by rfl, rfl⟩) (by assumption) ?_
    try simp only [Act.put, List.setIfInBounds_toArray, List.set_cons_zero, List.set_cons_succ]
    refine wpAnyH_take (i := 17) (oi := { dst := some 156, op := Op.binOp BinOp.eql 3 (Operand.tmp 154) (Operand.tmp 155) 3, type := 4, pos := "law.go:104", after := _, guard := some (14, false) }) rfl (by kernel_rfl) (by kernel_rfl) (by kernel_rfl) (fun _ _ _ h => h) (Or.inr ⟨by rfl, rfl⟩) (by assumption) ?_
    try simp only [Act.put, List.setIfInBounds_toArray, List.set_cons_zero, List.set_cons_succ]
    refine wpAnyH_take (i := 18) (oi := { dst := some 157, op := Op.pick (Operand.tmp 153) (Operand.const (Value.bool true)) (Operand.tmp 156), type := 4, pos := "law.go:104", after := _, guard := none }) (v := ?ver18) rfl (by kernel_rfl) (by kernel_rfl) (by kernel_rfl) (fun _ _ _ h => h) (Or.inl ⟨by rfl, ?hyer18⟩) (by assumption) ?rester18
    case hyer18 => (intro w hSw; (try dsimp only at hSw); go_simp <;> with_reducible rfl)
    try simp only [Act.put, List.setIfInBounds_toArray, List.set_cons_zero, List.set_cons_succ]
    refine wpAnyH_take (i := 19) (oi := { dst := some 158, op := Op.move (Operand.tmp 157), type := 4, pos := "law.go:104", after := _, guard := none }) (v := ?ver19) rfl (by kernel_rfl) (by kernel_rfl) (by kernel_rfl) (fun _ _ _ h => h) (Or.inl ⟨by rfl, ?hyer19⟩) (by assumption) ?rester19
    case hyer19 => (intro w hSw; (try dsimp only at hSw); go_simp <;> with_reducible rfl)
    try simp only [Act.put, List.setIfInBounds_toArray, List.set_cons_zero, List.set_cons_succ]
    refine wpAnyH_take (i := 20) (oi := { dst := some 159, op := Op.fieldAddr 25 (Operand.tmp 12) 1, type := 0, pos := "law.go:104", after := _, guard := some (19, false) }) rfl (by kernel_rfl) (by kernel_rfl) (by kernel_rfl) (fun _ _ _ h => h) (Or.inr ⟨by rfl, rfl⟩) (by assumption) ?_
    try simp only [Act.put, List.setIfInBounds_toArray, List.set_cons_zero, List.set_cons_succ]
    refine wpAnyH_take (i := 21) (oi := { dst := some 160, op := Op.load 23 (Operand.tmp 159), type := 23, pos := "law.go:104", after := _, guard := some (19, false) }) rfl (by kernel_rfl) (by kernel_rfl) (by kernel_rfl) (fun _ _ _ h => h) (Or.inr ⟨by rfl, rfl⟩) (by assumption) ?_
    try simp only [Act.put, List.setIfInBounds_toArray, List.set_cons_zero, List.set_cons_succ]
    refine wpAnyH_take (i := 22) (oi := { dst := some 161, op := Op.move (Operand.tmp 4), type := 3, pos := "law.go:104", after := _, guard := some (19, false) }) rfl (by kernel_rfl) (by kernel_rfl) (by kernel_rfl) (fun _ _ _ h => h) (Or.inr ⟨by rfl, rfl⟩) (by assumption) ?_
    try simp only [Act.put, List.setIfInBounds_toArray, List.set_cons_zero, List.set_cons_succ]
    refine wpAnyH_take (i := 23) (oi := { dst := some 162, op := Op.indexAddr 23 (Operand.tmp 160) (Operand.tmp 161), type := 0, pos := "law.go:104", after := _, guard := some (19, false) }) rfl (by kernel_rfl) (by kernel_rfl) (by kernel_rfl) (fun _ _ _ h => h) (Or.inr ⟨by rfl, rfl⟩) (by assumption) ?_
    try simp only [Act.put, List.setIfInBounds_toArray, List.set_cons_zero, List.set_cons_succ]
    refine wpAnyH_take (i := 24) (oi := { dst := some 163, op := Op.load 37 (Operand.tmp 162), type := 37, pos := "law.go:104", after := _, guard := some (19, false) }) rfl (by kernel_rfl) (by kernel_rfl) (by kernel_rfl) (fun _ _ _ h => h) (Or.inr ⟨by rfl, rfl⟩) (by assumption) ?_
    try simp only [Act.put, List.setIfInBounds_toArray, List.set_cons_zero, List.set_cons_succ]
    refine wpAnyH_take (i := 25) (oi := { dst := some 164, op := Op.fieldAddr 25 (Operand.tmp 5) 1, type := 0, pos := "law.go:104", after := _, guard := some (19, false) }) rfl (by kernel_rfl) (by kernel_rfl) (by kernel_rfl) (fun _ _ _ h => h) (Or.inr ⟨by rfl, rfl⟩) (by assumption) ?_
    try simp only [Act.put, List.setIfInBounds_toArray, List.set_cons_zero, List.set_cons_succ]
    refine wpAnyH_take (i := 26) (oi := { dst := some 165, op := Op.load 23 (Operand.tmp 164), type := 23, pos := "law.go:104", after := _, guard := some (19, false) }) rfl (by kernel_rfl) (by kernel_rfl) (by kernel_rfl) (fun _ _ _ h => h) (Or.inr ⟨by rfl, rfl⟩) (by assumption) ?_
    try simp only [Act.put, List.setIfInBounds_toArray, List.set_cons_zero, List.set_cons_succ]
    refine wpAnyH_take (i := 27) (oi := { dst := some 166, op := Op.move (Operand.tmp 4), type := 3, pos := "law.go:104", after := _, guard := some (19, false) }) rfl (by kernel_rfl) (by kernel_rfl) (by kernel_rfl) (fun _ _ _ h => h) (Or.inr ⟨by rfl, rfl⟩) (by assumption) ?_
    try simp only [Act.put, List.setIfInBounds_toArray, List.set_cons_zero, List.set_cons_succ]
    refine wpAnyH_take (i := 28) (oi := { dst := some 167, op := Op.indexAddr 23 (Operand.tmp 165) (Operand.tmp 166), type := 0, pos := "law.go:104", after := _, guard := some (19, false) }) rfl (by kernel_rfl) (by kernel_rfl) (by kernel_rfl) (fun _ _ _ h => h) (Or.inr ⟨by rfl, rfl⟩) (by assumption) ?_
    try simp only [Act.put, List.setIfInBounds_toArray, List.set_cons_zero, List.set_cons_succ]
    refine wpAnyH_take (i := 29) (oi := { dst := some 168, op := Op.load 37 (Operand.tmp 167), type := 37, pos := "law.go:104", after := _, guard := some (19, false) }) rfl (by kernel_rfl) (by kernel_rfl) (by kernel_rfl) (fun _ _ _ h => h) (Or.inr ⟨by rfl, rfl⟩) (by assumption) ?_
    try simp only [Act.put, List.setIfInBounds_toArray, List.set_cons_zero, List.set_cons_succ]
    refine wpAnyH_take (i := 30) (oi := { dst := some 169, op := Op.binOp BinOp.eql 37 (Operand.tmp 163) (Operand.tmp 168) 37, type := 4, pos := "law.go:104", after := _, guard := some (19, false) }) rfl (by kernel_rfl) (by kernel_rfl) (by kernel_rfl) (fun _ _ _ h => h) (Or.inr ⟨by rfl, rfl⟩) (by assumption) ?_
    try simp only [Act.put, List.setIfInBounds_toArray, List.set_cons_zero, List.set_cons_succ]
    refine wpAnyH_take (i := 31) (oi := { dst := some 170, op := Op.pick (Operand.tmp 158) (Operand.const (Value.bool true)) (Operand.tmp 169), type := 4, pos := "law.go:104", after := _, guard := none }) (v := ?ver31) rfl (by kernel_rfl) (by kernel_rfl) (by kernel_rfl) (fun _ _ _ h => h) (Or.inl ⟨by rfl, ?hyer31⟩) (by assumption) ?rester31
    case hyer31 => (intro w hSw; (try dsimp only at hSw); go_simp <;> with_reducible rfl)
    try simp only [Act.put, List.setIfInBounds_toArray, List.set_cons_zero, List.set_cons_succ]
    refine wpAnyH_ready (rs := [32]) (by kernel_rfl) (by simp) ?_
    refine AllReadyH.cons (o := { dst := some 10, op := Op.assign (Operand.tmp 170), type := 4, pos := "law.go:104", after := _, guard := none }) rfl (fun K hK => ?_) AllReadyH.nil
    go_simp
    skip
    refine hK.out _ _ ?_ (fun hHelder32 => ?_)
    · exact ⟨(BW3.cell (p := ⟨w.heap.size, 0, none⟩) sl).trans cs0, (BW3.cell (p := ⟨w.heap.size, 1, none⟩) sl).trans cs1, (BW3.cell (p := ⟨w3.heap.size, 0, none⟩) al).trans ca0, (BW3.cell (p := ⟨w3.heap.size, 1, none⟩) al).trans ca1⟩
    clear hK K hHelder
    try simp only [Act.put, List.setIfInBounds_toArray, List.set_cons_zero, List.set_cons_succ]
    refine wpAnyH_done (by kernel_rfl) ?_ _
    go_wp2
    go_ret
    exact ⟨rfl, hY5.trans (BW3.mono hY5.size)⟩
  obtain ⟨j, rfl⟩ := Int.eq_ofNat_of_zero_le (Int.not_lt.1 k1)
  have hj : j < ps0.length := by omega
  have hj0 : (0 : Int) ≤ (j : Int) := by omega
  have hj1 : (j : Int) < (ps0.length : Int) := by omega
  by_cases k3 : (j : Int) = (n : Int)
  · have k3' : ((j : Int) == (n : Int)) = true := by simpa using k3
    have BW3 := (Below.refl w5.heap.size w5).drew.drew.drew
    refine wp_region_held_drew (S := fun w' => w'.cell? ⟨w.heap.size, 0, none⟩ = some (.int .i64 cap0) ∧ w'.cell? ⟨w.heap.size, 1, none⟩ = some (.slice (some ⟨b0, o0, none⟩) ps0.length c0) ∧ w'.cell? ⟨w3.heap.size, 0, none⟩ = some (.int .i64 cap0) ∧ w'.cell? ⟨w3.heap.size, 1, none⟩ = some (.slice (some ⟨bA, oA, none⟩) qsA.length dA)) (by kernel_rfl) ?_ (fun hHeldfr => ?_)
    · exact ⟨(BW3.cell (p := ⟨w.heap.size, 0, none⟩) sl).trans cs0, (BW3.cell (p := ⟨w.heap.size, 1, none⟩) sl).trans cs1, (BW3.cell (p := ⟨w3.heap.size, 0, none⟩) al).trans ca0, (BW3.cell (p := ⟨w3.heap.size, 1, none⟩) al).trans ca1⟩
    refine wpAnyH_take (i := 0) (oi := { dst := some 139, op := Op.move (Operand.tmp 4), type := 3, pos := "law.go:104", after := _, guard := none }) (v := ?vfr0) rfl (by kernel_rfl) (by kernel_rfl) (by kernel_rfl) (fun _ _ _ h => h) (Or.inl ⟨by rfl, ?hyfr0⟩) (by assumption) ?restfr0
    case hyfr0 => (intro w hSw; (try dsimp only at hSw); go_simp <;> with_reducible rfl)
    try simp only [Act.put, List.setIfInBounds_toArray, List.set_cons_zero, List.set_cons_succ]
    refine wpAnyH_take (i := 1) (oi := { dst := some 140, op := Op.binOp BinOp.lss 3 (Operand.tmp 139) (Operand.const (Value.int IntKind.i64 0)) 3, type := 4, pos := "law.go:104", after := _, guard := none }) (v := .bool false) rfl (by kernel_rfl) (by kernel_rfl) (by kernel_rfl) (fun _ _ _ h => h) (Or.inl ⟨by rfl, ?hyfr1⟩) (by assumption) ?restfr1
    case hyfr1 => (intro w hSw; (try dsimp only at hSw); go_simp <;> first | done | with_reducible rfl | omega | (simp; done) | (simp; omega) | (simp [*]; done) | (simp [*]; omega) | exact decide_eq_false (by omega) | exact decide_eq_true (by omega))
    try simp only [Act.put, List.setIfInBounds_toArray, List.set_cons_zero, List.set_cons_succ]
    refine wpAnyH_take (i := 2) (oi := { dst := some 141, op := Op.move (Operand.tmp 140), type := 4, pos := "law.go:104", after := _, guard := none }) (v := ?vfr2) rfl (by kernel_rfl) (by kernel_rfl) (by kernel_rfl) (fun _ _ _ h => h) (Or.inl ⟨by rfl, ?hyfr2⟩) (by assumption) ?restfr2
    case hyfr2 => (intro w hSw; (try dsimp only at hSw); go_simp <;> with_reducible rfl)
    try simp only [Act.put, List.setIfInBounds_toArray, List.set_cons_zero, List.set_cons_succ]
    refine wpAnyH_take (i := 3) (oi := { dst := some 142, op := Op.move (Operand.tmp 4), type := 3, pos := "law.go:104", after := _, guard := some (2, false) }) (v := ?vfr3) rfl (by kernel_rfl) (by kernel_rfl) (by kernel_rfl) (fun _ _ _ h => h) (Or.inl ⟨by rfl, ?hyfr3⟩) (by assumption) ?restfr3
    case hyfr3 => (intro w hSw; (try dsimp only at hSw); go_simp <;> with_reducible rfl)
    try simp only [Act.put, List.setIfInBounds_toArray, List.set_cons_zero, List.set_cons_succ]
    refine wpAnyH_take (i := 4) (oi := { dst := some 143, op := Op.fieldAddr 25 (Operand.tmp 5) 1, type := 0, pos := "law.go:104", after := _, guard := some (2, false) }) (v := ?vfr4) rfl (by kernel_rfl) (by kernel_rfl) (by kernel_rfl) (fun _ _ _ h => h) (Or.inl ⟨by rfl, ?hyfr4⟩) (by assumption) ?restfr4
    case hyfr4 => (intro w hSw; (try dsimp only at hSw); go_simp <;> with_reducible rfl)
    try simp only [Act.put, List.setIfInBounds_toArray, List.set_cons_zero, List.set_cons_succ]
    refine wpAnyH_take (i := 5) (oi := { dst := some 144, op := Op.load 23 (Operand.tmp 143), type := 23, pos := "law.go:104", after := _, guard := some (2, false) }) (v := ?vfr5) rfl (by kernel_rfl) (by kernel_rfl) (by kernel_rfl) (fun _ _ _ h => h) (Or.inl ⟨by rfl, ?hyfr5⟩) (by assumption) ?restfr5
    case hyfr5 => (intro w hSw; (try dsimp only at hSw); go_simp <;> with_reducible rfl)
    try simp only [Act.put, List.setIfInBounds_toArray, List.set_cons_zero, List.set_cons_succ]
    refine wpAnyH_take (i := 6) (oi := { dst := some 145, op := Op.call { callee := Callee.builtin Builtin.len, args := #[Operand.tmp 144], argTypes := #[23] }, type := 3, pos := "law.go:104", after := _, guard := some (2, false) }) (v := ?vfr6) rfl (by kernel_rfl) (by kernel_rfl) (by kernel_rfl) (fun _ _ _ h => h) (Or.inl ⟨by rfl, ?hyfr6⟩) (by assumption) ?restfr6
    case hyfr6 => (intro w hSw; (try dsimp only at hSw); go_simp <;> with_reducible rfl)
    try simp only [Act.put, List.setIfInBounds_toArray, List.set_cons_zero, List.set_cons_succ]
    refine wpAnyH_take (i := 7) (oi := { dst := some 146, op := Op.binOp BinOp.geq 3 (Operand.tmp 142) (Operand.tmp 145) 3, type := 4, pos := "law.go:104", after := _, guard := some (2, false) }) (v := .bool false) rfl (by kernel_rfl) (by kernel_rfl) (by kernel_rfl) (fun _ _ _ h => h) (Or.inl ⟨by rfl, ?hyfr7⟩) (by assumption) ?restfr7
    case hyfr7 => (intro w hSw; (try dsimp only at hSw); go_simp <;> first | done | with_reducible rfl | omega | (simp; done) | (simp; omega) | (simp [*]; done) | (simp [*]; omega) | exact decide_eq_false (by omega) | exact decide_eq_true (by omega))
    try simp only [Act.put, List.setIfInBounds_toArray, List.set_cons_zero, List.set_cons_succ]
    refine wpAnyH_take (i := 8) (oi := { dst := some 147, op := Op.pick (Operand.tmp 141) (Operand.const (Value.bool true)) (Operand.tmp 146), type := 4, pos := "law.go:104", after := _, guard := none }) (v := ?vfr8) rfl (by kernel_rfl) (by kernel_rfl) (by kernel_rfl) (fun _ _ _ h => h) (Or.inl ⟨by rfl, ?hyfr8⟩) (by assumption) ?restfr8
    case hyfr8 => (intro w hSw; (try dsimp only at hSw); go_simp <;> with_reducible rfl)
    try simp only [Act.put, List.setIfInBounds_toArray, List.set_cons_zero, List.set_cons_succ]
    refine wpAnyH_take (i := 9) (oi := { dst := some 148, op := Op.move (Operand.tmp 147), type := 4, pos := "law.go:104", after := _, guard := none }) (v := ?vfr9) rfl (by kernel_rfl) (by kernel_rfl) (by kernel_rfl) (fun _ _ _ h => h) (Or.inl ⟨by rfl, ?hyfr9⟩) (by assumption) ?restfr9
    case hyfr9 => (intro w hSw; (try dsimp only at hSw); go_simp <;> with_reducible rfl)
    try simp only [Act.put, List.setIfInBounds_toArray, List.set_cons_zero, List.set_cons_succ]
    refine wpAnyH_take (i := 10) (oi := { dst := some 149, op := Op.move (Operand.tmp 4), type := 3, pos := "law.go:104", after := _, guard := some (9, false) }) (v := ?vfr10) rfl (by kernel_rfl) (by kernel_rfl) (by kernel_rfl) (fun _ _ _ h => h) (Or.inl ⟨by rfl, ?hyfr10⟩) (by assumption) ?restfr10
    case hyfr10 => (intro w hSw; (try dsimp only at hSw); go_simp <;> with_reducible rfl)
    try simp only [Act.put, List.setIfInBounds_toArray, List.set_cons_zero, List.set_cons_succ]
    refine wpAnyH_take (i := 11) (oi := { dst := some 150, op := Op.move (Operand.tmp 1), type := 3, pos := "law.go:104", after := _, guard := some (9, false) }) (v := ?vfr11) rfl (by kernel_rfl) (by kernel_rfl) (by kernel_rfl) (fun _ _ _ h => h) (Or.inl ⟨by rfl, ?hyfr11⟩) (by assumption) ?restfr11
    case hyfr11 => (intro w hSw; (try dsimp only at hSw); go_simp <;> with_reducible rfl)
    try simp only [Act.put, List.setIfInBounds_toArray, List.set_cons_zero, List.set_cons_succ]
    refine wpAnyH_take (i := 12) (oi := { dst := some 151, op := Op.binOp BinOp.eql 3 (Operand.tmp 149) (Operand.tmp 150) 3, type := 4, pos := "law.go:104", after := _, guard := some (9, false) }) (v := .bool true) rfl (by kernel_rfl) (by kernel_rfl) (by kernel_rfl) (fun _ _ _ h => h) (Or.inl ⟨by rfl, ?hyfr12⟩) (by assumption) ?restfr12
    case hyfr12 => (intro w hSw; (try dsimp only at hSw); go_simp <;> first | done | with_reducible rfl | omega | (simp; done) | (simp; omega) | (simp [*]; done) | (simp [*]; omega) | exact decide_eq_false (by omega) | exact decide_eq_true (by omega))
    try simp only [Act.put, List.setIfInBounds_toArray, List.set_cons_zero, List.set_cons_succ]
    refine wpAnyH_take (i := 13) (oi := { dst := some 152, op := Op.pick (Operand.tmp 148) (Operand.const (Value.bool true)) (Operand.tmp 151), type := 4, pos := "law.go:104", after := _, guard := none }) (v := ?vfr13) rfl (by kernel_rfl) (by kernel_rfl) (by kernel_rfl) (fun _ _ _ h => h) (Or.inl ⟨by rfl, ?hyfr13⟩) (by assumption) ?restfr13
    case hyfr13 => (intro w hSw; (try dsimp only at hSw); go_simp <;> with_reducible rfl)
    try simp only [Act.put, List.setIfInBounds_toArray, List.set_cons_zero, List.set_cons_succ]
    refine wpAnyH_take (i := 14) (oi := { dst := some 153, op := Op.move (Operand.tmp 152), type := 4, pos := "law.go:104", after := _, guard := none }) (v := ?vfr14) rfl (by kernel_rfl) (by kernel_rfl) (by kernel_rfl) (fun _ _ _ h => h) (Or.inl ⟨by rfl, ?hyfr14⟩) (by assumption) ?restfr14
    case hyfr14 => (intro w hSw; (try dsimp only at hSw); go_simp <;> with_reducible rfl)
    try simp only [Act.put, List.setIfInBounds_toArray, List.set_cons_zero, List.set_cons_succ]
    refine wpAnyH_take (i := 15) (oi := { dst := some 154, op := Op.move (Operand.tmp 4), type := 3, pos := "law.go:104", after := _, guard := some (14, false) }) rfl (by kernel_rfl) (by kernel_rfl) (by kernel_rfl) (fun _ _ _ h => h) (Or.inr ⟨by rfl, rfl⟩) (by assumption) ?_
    try simp only [Act.put, List.setIfInBounds_toArray, List.set_cons_zero, List.set_cons_succ]
    refine wpAnyH_take (i := 16) (oi := { dst := some 155, op := Op.move (Operand.tmp 13), type := 3, pos := "law.go:104", after := _, guard := some (14, false) }) rfl (by kernel_rfl) (by kernel_rfl) (by kernel_rfl) (fun _ _ _ h => h) (Or.inr ⟨by rfl, rfl⟩) (by assumption) ?_
    try simp only [Act.put, List.setIfInBounds_toArray, List.set_cons_zero, List.set_cons_succ]
    refine wpAnyH_take (i := 17) (oi := { dst := some 156, op := Op.binOp BinOp.eql 3 (Operand.tmp 154) (Operand.tmp 155) 3, type := 4, pos := "law.go:104", after := _, guard := some (14, false) }) rfl (by kernel_rfl) (by kernel_rfl) (by kernel_rfl) (fun _ _ _ h => h) (Or.inr ⟨by rfl, rfl⟩) (by assumption) ?_
    try simp only [Act.put, List.setIfInBounds_toArray, List.set_cons_zero, List.set_cons_succ]
    refine wpAnyH_take (i := 18) (oi := { dst := some 157, op := Op.pick (Operand.tmp 153) (Operand.const (Value.bool true)) (Operand.tmp 156), type := 4, pos := "law.go:104", after := _, guard := none }) (v := ?vfr18) rfl (by kernel_rfl) (by kernel_rfl) (by kernel_rfl) (fun _ _ _ h => h) (Or.inl ⟨by rfl, ?hyfr18⟩) (by assumption) ?restfr18
    case hyfr18 => (intro w hSw; (try dsimp only at hSw); go_simp <;> with_reducible rfl)
    try simp only [Act.put, List.setIfInBounds_toArray, List.set_cons_zero, List.set_cons_succ]
    refine wpAnyH_take (i := 19) (oi := { dst := some 158, op := Op.move (Operand.tmp 157), type := 4, pos := "law.go:104", after := _, guard := none }) (v := ?vfr19) rfl (by kernel_rfl) (by kernel_rfl) (by kernel_rfl) (fun _ _ _ h => h) (Or.inl ⟨by rfl, ?hyfr19⟩) (by assumption) ?restfr19
    case hyfr19 => (intro w hSw; (try dsimp only at hSw); go_simp <;> with_reducible rfl)
    try simp only [Act.put, List.setIfInBounds_toArray, List.set_cons_zero, List.set_cons_succ]
    refine wpAnyH_take (i := 20) (oi := { dst := some 159, op := Op.fieldAddr 25 (Operand.tmp 12) 1, type := 0, pos := "law.go:104", after := _, guard := some (19, false) }) rfl (by kernel_rfl) (by kernel_rfl) (by kernel_rfl) (fun _ _ _ h => h) (Or.inr ⟨by rfl, rfl⟩) (by assumption) ?_
    try simp only [Act.put, List.setIfInBounds_toArray, List.set_cons_zero, List.set_cons_succ]
    refine wpAnyH_take (i := 21) (oi := { dst := some 160, op := Op.load 23 (Operand.tmp 159), type := 23, pos := "law.go:104", after := _, guard := some (19, false) }) rfl (by kernel_rfl) (by kernel_rfl) (by kernel_rfl) (fun _ _ _ h => h) (Or.inr ⟨by rfl, rfl⟩) (by assumption) ?_
    try simp only [Act.put, List.setIfInBounds_toArray, List.set_cons_zero, List.set_cons_succ]
    refine wpAnyH_take (i := 22) (oi := { dst := some 161, op := Op.move (Operand.tmp 4), type := 3, pos := "law.go:104", after := _, guard := some (19, false) }) rfl (by kernel_rfl) (by kernel_rfl) (by kernel_rfl) (fun _ _ _ h => h) (Or.inr ⟨by rfl, rfl⟩) (by assumption) ?_
    try simp only [Act.put, List.setIfInBounds_toArray, List.set_cons_zero, List.set_cons_succ]
    refine wpAnyH_take (i := 23) (oi := { dst := some 162, op := Op.indexAddr 23 (Operand.tmp 160) (Operand.tmp 161), type := 0, pos := "law.go:104", after := _, guard := some (19, false) }) rfl (by kernel_rfl) (by kernel_rfl) (by kernel_rfl) (fun _ _ _ h => h) (Or.inr ⟨by rfl, rfl⟩) (by assumption) ?_
    try simp only [Act.put, List.setIfInBounds_toArray, List.set_cons_zero, List.set_cons_succ]
    refine wpAnyH_take (i := 24) (oi := { dst := some 163, op := Op.load 37 (Operand.tmp 162), type := 37, pos := "law.go:104", after := _, guard := some (19, false) }) rfl (by kernel_rfl) (by kernel_rfl) (by kernel_rfl) (fun _ _ _ h => h) (Or.inr ⟨by rfl, rfl⟩) (by assumption) ?_
    try simp only [Act.put, List.setIfInBounds_toArray, List.set_cons_zero, List.set_cons_succ]
    refine wpAnyH_take (i := 25) (oi := { dst := some 164, op := Op.fieldAddr 25 (Operand.tmp 5) 1, type := 0, pos := "law.go:104", after := _, guard := some (19, false) }) rfl (by kernel_rfl) (by kernel_rfl) (by kernel_rfl) (fun _ _ _ h => h) (Or.inr ⟨by rfl, rfl⟩) (by assumption) ?_
    try simp only [Act.put, List.setIfInBounds_toArray, List.set_cons_zero, List.set_cons_succ]
    refine wpAnyH_take (i := 26) (oi := { dst := some 165, op := Op.load 23 (Operand.tmp 164), type := 23, pos := "law.go:104", after := _, guard := some (19, false) }) rfl (by kernel_rfl) (by kernel_rfl) (by kernel_rfl) (fun _ _ _ h => h) (Or.inr ⟨by rfl, rfl⟩) (by assumption) ?_
    try simp only [Act.put, List.setIfInBounds_toArray, List.set_cons_zero, List.set_cons_succ]
    refine wpAnyH_take (i := 27) (oi := { dst := some 166, op := Op.move (Operand.tmp 4), type := 3, pos := "law.go:104", after := _, guard := some (19, false) }) rfl (by kernel_rfl) (by kernel_rfl) (by kernel_rfl) (fun _ _ _ h => h) (Or.inr ⟨by rfl, rfl⟩) (by assumption) ?_
    try simp only [Act.put, List.setIfInBounds_toArray, List.set_cons_zero, List.set_cons_succ]
    refine wpAnyH_take (i := 28) (oi := { dst := some 167, op := Op.indexAddr 23 (Operand.tmp 165) (Operand.tmp 166), type := 0, pos := "law.go:104", after := _, guard := some (19, false) }) rfl (by kernel_rfl) (by kernel_rfl) (by kernel_rfl) (fun _ _ _ h => h) (Or.inr ⟨by rfl, rfl⟩) (by assumption) ?_
    try simp only [Act.put, List.setIfInBounds_toArray, List.set_cons_zero, List.set_cons_succ]
    refine wpAnyH_take (i := 29) (oi := { dst := some 168, op := Op.load 37 (Operand.tmp 167), type := 37, pos := "law.go:104", after := _, guard := some (19, false) }) rfl (by kernel_rfl) (by kernel_rfl) (by kernel_rfl) (fun _ _ _ h => h) (Or.inr ⟨by rfl, rfl⟩) (by assumption) ?_
    try simp only [Act.put, List.setIfInBounds_toArray, List.set_cons_zero, List.set_cons_succ]
    refine wpAnyH_take (i := 30) (oi := { dst := some 169, op := Op.binOp BinOp.eql 37 (Operand.tmp 163) (Operand.tmp 168) 37, type := 4, pos := "law.go:104", after := _, guard := some (19, false) }) rfl (by kernel_rfl) (by kernel_rfl) (by kernel_rfl) (fun _ _ _ h => h) (Or.inr ⟨by rfl, rfl⟩) (by assumption) ?_
    try simp only [Act.put, List.setIfInBounds_toArray, List.set_cons_zero, List.set_cons_succ]
    refine wpAnyH_take (i := 31) (oi := { dst := some 170, op := Op.pick (Operand.tmp 158) (Operand.const (Value.bool true)) (Operand.tmp 169), type := 4, pos := "law.go:104", after := _, guard := none }) (v := ?vfr31) rfl (by kernel_rfl) (by kernel_rfl) (by kernel_rfl) (fun _ _ _ h => h) (Or.inl ⟨by rfl, ?hyfr31⟩) (by assumption) ?restfr31
    case hyfr31 => (intro w hSw; (try dsimp only at hSw); go_simp <;> with_reducible rfl)
    try simp only [Act.put, List.setIfInBounds_toArray, List.set_cons_zero, List.set_cons_succ]
    refine wpAnyH_ready (rs := [32]) (by kernel_rfl) (by simp) ?_
    refine AllReadyH.cons (o := { dst := some 10, op := Op.assign (Operand.tmp 170), type := 4, pos := "law.go:104", after := _, guard := none }) rfl (fun K hK => ?_) AllReadyH.nil
    go_simp
    skip
    refine hK.out _ _ ?_ (fun hHeldfr32 => ?_)
    · exact ⟨(BW3.cell (p := ⟨w.heap.size, 0, none⟩) sl).trans cs0, (BW3.cell (p := ⟨w.heap.size, 1, none⟩) sl).trans cs1, (BW3.cell (p := ⟨w3.heap.size, 0, none⟩) al).trans ca0, (BW3.cell (p := ⟨w3.heap.size, 1, none⟩) al).trans ca1⟩
    clear hK K hHeldfr
    try simp only [Act.put, List.setIfInBounds_toArray, List.set_cons_zero, List.set_cons_succ]
    refine wpAnyH_done (by kernel_rfl) ?_ _
    go_wp2
    go_ret
    exact ⟨rfl, hY5.trans (BW3.mono hY5.size)⟩
  have k4 : ¬ (j : Int) = (a : Int) := fun h => k3 (h.trans (by simpa using hna))
  have hjq : qsA[j]? = some ps0[j] := by rw [HA.out j hj (by omega) (by omega)]; exact List.getElem?_eq_getElem hj
  obtain ⟨hjA, hjx⟩ := List.getElem?_eq_some_iff.1 hjq
  have hj2 : (j : Int) < (qsA.length : Int) := by omega
  obtain ⟨xj, hxj⟩ : ∃ x, ps0[j] = x := ⟨_, rfl⟩
  rw [hxj] at hjx
  have s0 : w5.cell? ⟨b0, o0 + j * 5, none⟩ = some (.int .i64 xj.r) := by have h := hel0 w5 hD5 j hj 0 _ rfl; rw [hxj] at h; exact h
  have s1 : w5.cell? ⟨b0, o0 + j * 5 + 1, none⟩ = some (.int .i64 xj.a) := by have h := hel0 w5 hD5 j hj 1 _ rfl; rw [hxj] at h; exact h
  have s2 : w5.cell? ⟨b0, o0 + j * 5 + 2, none⟩ = some (.int .i64 xj.b) := by have h := hel0 w5 hD5 j hj 2 _ rfl; rw [hxj] at h; exact h
  have s3 : w5.cell? ⟨b0, o0 + j * 5 + 3, none⟩ = some (.int .i64 xj.c) := by have h := hel0 w5 hD5 j hj 3 _ rfl; rw [hxj] at h; exact h
  have s4 : w5.cell? ⟨b0, o0 + j * 5 + 4, none⟩ = some (.int .i64 xj.d) := by have h := hel0 w5 hD5 j hj 4 _ rfl; rw [hxj] at h; exact h
  have t0 : w5.cell? ⟨bA, oA + j * 5, none⟩ = some (.int .i64 xj.r) := by have h := helA w5 hD5 j hjA 0 _ rfl; rw [hjx] at h; exact h
  have t1 : w5.cell? ⟨bA, oA + j * 5 + 1, none⟩ = some (.int .i64 xj.a) := by have h := helA w5 hD5 j hjA 1 _ rfl; rw [hjx] at h; exact h
  have t2 : w5.cell? ⟨bA, oA + j * 5 + 2, none⟩ = some (.int .i64 xj.b) := by have h := helA w5 hD5 j hjA 2 _ rfl; rw [hjx] at h; exact h
  have t3 : w5.cell? ⟨bA, oA + j * 5 + 3, none⟩ = some (.int .i64 xj.c) := by have h := helA w5 hD5 j hjA 3 _ rfl; rw [hjx] at h; exact h
  have t4 : w5.cell? ⟨bA, oA + j * 5 + 4, none⟩ = some (.int .i64 xj.d) := by have h := helA w5 hD5 j hjA 4 _ rfl; rw [hjx] at h; exact h
  have k3' : ((j : Int) == (n : Int)) = false := by simpa using k3
  have k4' : ((j : Int) == (a : Int)) = false := by simpa using k4
  have eq := fun w => eql_page xj xj w
  rw [pgEq_refl'] at eq
  have eg := fun x y w => guard_page .eql x y xj xj w
  simp only [encP] at eq eg
  clear HA hjq helA hel0
  · skip
    have BW3 := (Below.refl w5.heap.size w5).drew.drew.drew
    refine wp_region_held_drew (S := fun w' => w'.cell? ⟨w.heap.size, 0, none⟩ = some (.int .i64 cap0) ∧ w'.cell? ⟨w.heap.size, 1, none⟩ = some (.slice (some ⟨b0, o0, none⟩) ps0.length c0) ∧ w'.cell? ⟨w3.heap.size, 0, none⟩ = some (.int .i64 cap0) ∧ w'.cell? ⟨w3.heap.size, 1, none⟩ = some (.slice (some ⟨bA, oA, none⟩) qsA.length dA) ∧ w'.cell? ⟨b0, o0 + j * 5, none⟩ = some (.int .i64 xj.r) ∧ w'.cell? ⟨b0, o0 + j * 5 + 1, none⟩ = some (.int .i64 xj.a) ∧ w'.cell? ⟨b0, o0 + j * 5 + 2, none⟩ = some (.int .i64 xj.b) ∧ w'.cell? ⟨b0, o0 + j * 5 + 3, none⟩ = some (.int .i64 xj.c) ∧ w'.cell? ⟨b0, o0 + j * 5 + 4, none⟩ = some (.int .i64 xj.d) ∧ w'.cell? ⟨bA, oA + j * 5, none⟩ = some (.int .i64 xj.r) ∧ w'.cell? ⟨bA, oA + j * 5 + 1, none⟩ = some (.int .i64 xj.a) ∧ w'.cell? ⟨bA, oA + j * 5 + 2, none⟩ = some (.int .i64 xj.b) ∧ w'.cell? ⟨bA, oA + j * 5 + 3, none⟩ = some (.int .i64 xj.c) ∧ w'.cell? ⟨bA, oA + j * 5 + 4, none⟩ = some (.int .i64 xj.d)) (by kernel_rfl) ?_ (fun hHeldgr => ?_)
    · exact ⟨(BW3.cell (p := ⟨w.heap.size, 0, none⟩) sl).trans cs0, (BW3.cell (p := ⟨w.heap.size, 1, none⟩) sl).trans cs1, (BW3.cell (p := ⟨w3.heap.size, 0, none⟩) al).trans ca0, (BW3.cell (p := ⟨w3.heap.size, 1, none⟩) al).trans ca1, (BW3.cell (p := ⟨b0, o0 + j * 5, none⟩) hlb0).trans s0, (BW3.cell (p := ⟨b0, o0 + j * 5 + 1, none⟩) hlb0).trans s1, (BW3.cell (p := ⟨b0, o0 + j * 5 + 2, none⟩) hlb0).trans s2, (BW3.cell (p := ⟨b0, o0 + j * 5 + 3, none⟩) hlb0).trans s3, (BW3.cell (p := ⟨b0, o0 + j * 5 + 4, none⟩) hlb0).trans s4, (BW3.cell (p := ⟨bA, oA + j * 5, none⟩) hlbA).trans t0, (BW3.cell (p := ⟨bA, oA + j * 5 + 1, none⟩) hlbA).trans t1, (BW3.cell (p := ⟨bA, oA + j * 5 + 2, none⟩) hlbA).trans t2, (BW3.cell (p := ⟨bA, oA + j * 5 + 3, none⟩) hlbA).trans t3, (BW3.cell (p := ⟨bA, oA + j * 5 + 4, none⟩) hlbA).trans t4⟩
    refine wpAnyH_take (i := 0) (oi := { dst := some 139, op := Op.move (Operand.tmp 4), type := 3, pos := "law.go:104", after := _, guard := none }) (v := ?vgr0) rfl (by kernel_rfl) (by kernel_rfl) (by kernel_rfl) (fun _ _ _ h => h) (Or.inl ⟨by rfl, ?hygr0⟩) (by assumption) ?restgr0
    case hygr0 => (intro w hSw; (try dsimp only at hSw); go_simp <;> with_reducible rfl)
    try simp only [Act.put, List.setIfInBounds_toArray, List.set_cons_zero, List.set_cons_succ]
    refine wpAnyH_take (i := 1) (oi := { dst := some 140, op := Op.binOp BinOp.lss 3 (Operand.tmp 139) (Operand.const (Value.int IntKind.i64 0)) 3, type := 4, pos := "law.go:104", after := _, guard := none }) (v := .bool false) rfl (by kernel_rfl) (by kernel_rfl) (by kernel_rfl) (fun _ _ _ h => h) (Or.inl ⟨by rfl, ?hygr1⟩) (by assumption) ?restgr1
    case hygr1 => (intro w hSw; (try dsimp only at hSw); go_simp <;> first | done | with_reducible rfl | omega | (simp; done) | (simp; omega) | (simp [*]; done) | (simp [*]; omega) | exact decide_eq_false (by omega) | exact decide_eq_true (by omega))
    try simp only [Act.put, List.setIfInBounds_toArray, List.set_cons_zero, List.set_cons_succ]
    refine wpAnyH_take (i := 2) (oi := { dst := some 141, op := Op.move (Operand.tmp 140), type := 4, pos := "law.go:104", after := _, guard := none }) (v := ?vgr2) rfl (by kernel_rfl) (by kernel_rfl) (by kernel_rfl) (fun _ _ _ h => h) (Or.inl ⟨by rfl, ?hygr2⟩) (by assumption) ?restgr2
    case hygr2 => (intro w hSw; (try dsimp only at hSw); go_simp <;> with_reducible rfl)
    try simp only [Act.put, List.setIfInBounds_toArray, List.set_cons_zero, List.set_cons_succ]
    refine wpAnyH_take (i := 3) (oi := { dst := some 142, op := Op.move (Operand.tmp 4), type := 3, pos := "law.go:104", after := _, guard := some (2, false) }) (v := ?vgr3) rfl (by kernel_rfl) (by kernel_rfl) (by kernel_rfl) (fun _ _ _ h => h) (Or.inl ⟨by rfl, ?hygr3⟩) (by assumption) ?restgr3
    case hygr3 => (intro w hSw; (try dsimp only at hSw); go_simp <;> with_reducible rfl)
    try simp only [Act.put, List.setIfInBounds_toArray, List.set_cons_zero, List.set_cons_succ]
    refine wpAnyH_take (i := 4) (oi := { dst := some 143, op := Op.fieldAddr 25 (Operand.tmp 5) 1, type := 0, pos := "law.go:104", after := _, guard := some (2, false) }) (v := ?vgr4) rfl (by kernel_rfl) (by kernel_rfl) (by kernel_rfl) (fun _ _ _ h => h) (Or.inl ⟨by rfl, ?hygr4⟩) (by assumption) ?restgr4
    case hygr4 => (intro w hSw; (try dsimp only at hSw); go_simp <;> with_reducible rfl)
    try simp only [Act.put, List.setIfInBounds_toArray, List.set_cons_zero, List.set_cons_succ]
    refine wpAnyH_take (i := 5) (oi := { dst := some 144, op := Op.load 23 (Operand.tmp 143), type := 23, pos := "law.go:104", after := _, guard := some (2, false) }) (v := ?vgr5) rfl (by kernel_rfl) (by kernel_rfl) (by kernel_rfl) (fun _ _ _ h => h) (Or.inl ⟨by rfl, ?hygr5⟩) (by assumption) ?restgr5
    case hygr5 => (intro w hSw; (try dsimp only at hSw); go_simp <;> with_reducible rfl)
    try simp only [Act.put, List.setIfInBounds_toArray, List.set_cons_zero, List.set_cons_succ]
    refine wpAnyH_take (i := 6) (oi := { dst := some 145, op := Op.call { callee := Callee.builtin Builtin.len, args := #[Operand.tmp 144], argTypes := #[23] }, type := 3, pos := "law.go:104", after := _, guard := some (2, false) }) (v := ?vgr6) rfl (by kernel_rfl) (by kernel_rfl) (by kernel_rfl) (fun _ _ _ h => h) (Or.inl ⟨by rfl, ?hygr6⟩) (by assumption) ?restgr6
    case hygr6 => (intro w hSw; (try dsimp only at hSw); go_simp <;> with_reducible rfl)
    try simp only [Act.put, List.setIfInBounds_toArray, List.set_cons_zero, List.set_cons_succ]
    refine wpAnyH_take (i := 7) (oi := { dst := some 146, op := Op.binOp BinOp.geq 3 (Operand.tmp 142) (Operand.tmp 145) 3, type := 4, pos := "law.go:104", after := _, guard := some (2, false) }) (v := .bool false) rfl (by kernel_rfl) (by kernel_rfl) (by kernel_rfl) (fun _ _ _ h => h) (Or.inl ⟨by rfl, ?hygr7⟩) (by assumption) ?restgr7
    case hygr7 => (intro w hSw; (try dsimp only at hSw); go_simp <;> first | done | with_reducible rfl | omega | (simp; done) | (simp; omega) | (simp [*]; done) | (simp [*]; omega) | exact decide_eq_false (by omega) | exact decide_eq_true (by omega))
    try simp only [Act.put, List.setIfInBounds_toArray, List.set_cons_zero, List.set_cons_succ]
    refine wpAnyH_take (i := 8) (oi := { dst := some 147, op := Op.pick (Operand.tmp 141) (Operand.const (Value.bool true)) (Operand.tmp 146), type := 4, pos := "law.go:104", after := _, guard := none }) (v := ?vgr8) rfl (by kernel_rfl) (by kernel_rfl) (by kernel_rfl) (fun _ _ _ h => h) (Or.inl ⟨by rfl, ?hygr8⟩) (by assumption) ?restgr8
    case hygr8 => (intro w hSw; (try dsimp only at hSw); go_simp <;> with_reducible rfl)
    try simp only [Act.put, List.setIfInBounds_toArray, List.set_cons_zero, List.set_cons_succ]
    refine wpAnyH_take (i := 9) (oi := { dst := some 148, op := Op.move (Operand.tmp 147), type := 4, pos := "law.go:104", after := _, guard := none }) (v := ?vgr9) rfl (by kernel_rfl) (by kernel_rfl) (by kernel_rfl) (fun _ _ _ h => h) (Or.inl ⟨by rfl, ?hygr9⟩) (by assumption) ?restgr9
    case hygr9 => (intro w hSw; (try dsimp only at hSw); go_simp <;> with_reducible rfl)
    try simp only [Act.put, List.setIfInBounds_toArray, List.set_cons_zero, List.set_cons_succ]
    refine wpAnyH_take (i := 10) (oi := { dst := some 149, op := Op.move (Operand.tmp 4), type := 3, pos := "law.go:104", after := _, guard := some (9, false) }) (v := ?vgr10) rfl (by kernel_rfl) (by kernel_rfl) (by kernel_rfl) (fun _ _ _ h => h) (Or.inl ⟨by rfl, ?hygr10⟩) (by assumption) ?restgr10
    case hygr10 => (intro w hSw; (try dsimp only at hSw); go_simp <;> with_reducible rfl)
    try simp only [Act.put, List.setIfInBounds_toArray, List.set_cons_zero, List.set_cons_succ]
    refine wpAnyH_take (i := 11) (oi := { dst := some 150, op := Op.move (Operand.tmp 1), type := 3, pos := "law.go:104", after := _, guard := some (9, false) }) (v := ?vgr11) rfl (by kernel_rfl) (by kernel_rfl) (by kernel_rfl) (fun _ _ _ h => h) (Or.inl ⟨by rfl, ?hygr11⟩) (by assumption) ?restgr11
    case hygr11 => (intro w hSw; (try dsimp only at hSw); go_simp <;> with_reducible rfl)
    try simp only [Act.put, List.setIfInBounds_toArray, List.set_cons_zero, List.set_cons_succ]
    refine wpAnyH_take (i := 12) (oi := { dst := some 151, op := Op.binOp BinOp.eql 3 (Operand.tmp 149) (Operand.tmp 150) 3, type := 4, pos := "law.go:104", after := _, guard := some (9, false) }) (v := .bool false) rfl (by kernel_rfl) (by kernel_rfl) (by kernel_rfl) (fun _ _ _ h => h) (Or.inl ⟨by rfl, ?hygr12⟩) (by assumption) ?restgr12
    case hygr12 => (intro w hSw; (try dsimp only at hSw); go_simp <;> first | done | with_reducible rfl | omega | (simp; done) | (simp; omega) | (simp [*]; done) | (simp [*]; omega) | exact decide_eq_false (by omega) | exact decide_eq_true (by omega))
    try simp only [Act.put, List.setIfInBounds_toArray, List.set_cons_zero, List.set_cons_succ]
    refine wpAnyH_take (i := 13) (oi := { dst := some 152, op := Op.pick (Operand.tmp 148) (Operand.const (Value.bool true)) (Operand.tmp 151), type := 4, pos := "law.go:104", after := _, guard := none }) (v := ?vgr13) rfl (by kernel_rfl) (by kernel_rfl) (by kernel_rfl) (fun _ _ _ h => h) (Or.inl ⟨by rfl, ?hygr13⟩) (by assumption) ?restgr13
    case hygr13 => (intro w hSw; (try dsimp only at hSw); go_simp <;> with_reducible rfl)
    try simp only [Act.put, List.setIfInBounds_toArray, List.set_cons_zero, List.set_cons_succ]
    refine wpAnyH_take (i := 14) (oi := { dst := some 153, op := Op.move (Operand.tmp 152), type := 4, pos := "law.go:104", after := _, guard := none }) (v := ?vgr14) rfl (by kernel_rfl) (by kernel_rfl) (by kernel_rfl) (fun _ _ _ h => h) (Or.inl ⟨by rfl, ?hygr14⟩) (by assumption) ?restgr14
    case hygr14 => (intro w hSw; (try dsimp only at hSw); go_simp <;> with_reducible rfl)
    try simp only [Act.put, List.setIfInBounds_toArray, List.set_cons_zero, List.set_cons_succ]
    refine wpAnyH_take (i := 15) (oi := { dst := some 154, op := Op.move (Operand.tmp 4), type := 3, pos := "law.go:104", after := _, guard := some (14, false) }) (v := ?vgr15) rfl (by kernel_rfl) (by kernel_rfl) (by kernel_rfl) (fun _ _ _ h => h) (Or.inl ⟨by rfl, ?hygr15⟩) (by assumption) ?restgr15
    case hygr15 => (intro w hSw; (try dsimp only at hSw); go_simp <;> with_reducible rfl)
    try simp only [Act.put, List.setIfInBounds_toArray, List.set_cons_zero, List.set_cons_succ]
    refine wpAnyH_take (i := 16) (oi := { dst := some 155, op := Op.move (Operand.tmp 13), type := 3, pos := "law.go:104", after := _, guard := some (14, false) }) (v := ?vgr16) rfl (by kernel_rfl) (by kernel_rfl) (by kernel_rfl) (fun _ _ _ h => h) (Or.inl ⟨by rfl, ?hygr16⟩) (by assumption) ?restgr16
    case hygr16 => (intro w hSw; (try dsimp only at hSw); go_simp <;> with_reducible rfl)
    try simp only [Act.put, List.setIfInBounds_toArray, List.set_cons_zero, List.set_cons_succ]
    refine wpAnyH_take (i := 17) (oi := { dst := some 156, op := Op.binOp BinOp.eql 3 (Operand.tmp 154) (Operand.tmp 155) 3, type := 4, pos := "law.go:104", after := _, guard := some (14, false) }) (v := .bool false) rfl (by kernel_rfl) (by kernel_rfl) (by kernel_rfl) (fun _ _ _ h => h) (Or.inl ⟨by rfl, ?hygr17⟩) (by assumption) ?restgr17
    case hygr17 => (intro w hSw; (try dsimp only at hSw); go_simp <;> first | done | with_reducible rfl | omega | (simp; done) | (simp; omega) | (simp [*]; done) | (simp [*]; omega) | exact decide_eq_false (by omega) | exact decide_eq_true (by omega))
    try simp only [Act.put, List.setIfInBounds_toArray, List.set_cons_zero, List.set_cons_succ]
    refine wpAnyH_take (i := 18) (oi := { dst := some 157, op := Op.pick (Operand.tmp 153) (Operand.const (Value.bool true)) (Operand.tmp 156), type := 4, pos := "law.go:104", after := _, guard := none }) (v := ?vgr18) rfl (by kernel_rfl) (by kernel_rfl) (by kernel_rfl) (fun _ _ _ h => h) (Or.inl ⟨by rfl, ?hygr18⟩) (by assumption) ?restgr18
    case hygr18 => (intro w hSw; (try dsimp only at hSw); go_simp <;> with_reducible rfl)
    try simp only [Act.put, List.setIfInBounds_toArray, List.set_cons_zero, List.set_cons_succ]
    refine wpAnyH_take (i := 19) (oi := { dst := some 158, op := Op.move (Operand.tmp 157), type := 4, pos := "law.go:104", after := _, guard := none }) (v := ?vgr19) rfl (by kernel_rfl) (by kernel_rfl) (by kernel_rfl) (fun _ _ _ h => h) (Or.inl ⟨by rfl, ?hygr19⟩) (by assumption) ?restgr19
    case hygr19 => (intro w hSw; (try dsimp only at hSw); go_simp <;> with_reducible rfl)
    try simp only [Act.put, List.setIfInBounds_toArray, List.set_cons_zero, List.set_cons_succ]
    refine wpAnyH_take (i := 20) (oi := { dst := some 159, op := Op.fieldAddr 25 (Operand.tmp 12) 1, type := 0, pos := "law.go:104", after := _, guard := some (19, false) }) (v := ?vgr20) rfl (by kernel_rfl) (by kernel_rfl) (by kernel_rfl) (fun _ _ _ h => h) (Or.inl ⟨by rfl, ?hygr20⟩) (by assumption) ?restgr20
    case hygr20 => (intro w hSw; (try dsimp only at hSw); go_simp <;> with_reducible rfl)
    try simp only [Act.put, List.setIfInBounds_toArray, List.set_cons_zero, List.set_cons_succ]
    refine wpAnyH_take (i := 21) (oi := { dst := some 160, op := Op.load 23 (Operand.tmp 159), type := 23, pos := "law.go:104", after := _, guard := some (19, false) }) (v := ?vgr21) rfl (by kernel_rfl) (by kernel_rfl) (by kernel_rfl) (fun _ _ _ h => h) (Or.inl ⟨by rfl, ?hygr21⟩) (by assumption) ?restgr21
    case hygr21 => (intro w hSw; (try dsimp only at hSw); go_simp <;> with_reducible rfl)
    try simp only [Act.put, List.setIfInBounds_toArray, List.set_cons_zero, List.set_cons_succ]
    refine wpAnyH_take (i := 22) (oi := { dst := some 161, op := Op.move (Operand.tmp 4), type := 3, pos := "law.go:104", after := _, guard := some (19, false) }) (v := ?vgr22) rfl (by kernel_rfl) (by kernel_rfl) (by kernel_rfl) (fun _ _ _ h => h) (Or.inl ⟨by rfl, ?hygr22⟩) (by assumption) ?restgr22
    case hygr22 => (intro w hSw; (try dsimp only at hSw); go_simp <;> with_reducible rfl)
    try simp only [Act.put, List.setIfInBounds_toArray, List.set_cons_zero, List.set_cons_succ]
    refine wpAnyH_take (i := 23) (oi := { dst := some 162, op := Op.indexAddr 23 (Operand.tmp 160) (Operand.tmp 161), type := 0, pos := "law.go:104", after := _, guard := some (19, false) }) (v := ?vgr23) rfl (by kernel_rfl) (by kernel_rfl) (by kernel_rfl) (fun _ _ _ h => h) (Or.inl ⟨by rfl, ?hygr23⟩) (by assumption) ?restgr23
    case hygr23 => (intro w hSw; (try dsimp only at hSw); go_simp <;> with_reducible rfl)
    try simp only [Act.put, List.setIfInBounds_toArray, List.set_cons_zero, List.set_cons_succ]
    refine wpAnyH_take (i := 24) (oi := { dst := some 163, op := Op.load 37 (Operand.tmp 162), type := 37, pos := "law.go:104", after := _, guard := some (19, false) }) (v := ?vgr24) rfl (by kernel_rfl) (by kernel_rfl) (by kernel_rfl) (fun _ _ _ h => h) (Or.inl ⟨by rfl, ?hygr24⟩) (by assumption) ?restgr24
    case hygr24 => (intro w hSw; (try dsimp only at hSw); go_simp <;> with_reducible rfl)
    try simp only [Act.put, List.setIfInBounds_toArray, List.set_cons_zero, List.set_cons_succ]
    refine wpAnyH_take (i := 25) (oi := { dst := some 164, op := Op.fieldAddr 25 (Operand.tmp 5) 1, type := 0, pos := "law.go:104", after := _, guard := some (19, false) }) (v := ?vgr25) rfl (by kernel_rfl) (by kernel_rfl) (by kernel_rfl) (fun _ _ _ h => h) (Or.inl ⟨by rfl, ?hygr25⟩) (by assumption) ?restgr25
    case hygr25 => (intro w hSw; (try dsimp only at hSw); go_simp <;> with_reducible rfl)
    try simp only [Act.put, List.setIfInBounds_toArray, List.set_cons_zero, List.set_cons_succ]
    refine wpAnyH_take (i := 26) (oi := { dst := some 165, op := Op.load 23 (Operand.tmp 164), type := 23, pos := "law.go:104", after := _, guard := some (19, false) }) (v := ?vgr26) rfl (by kernel_rfl) (by kernel_rfl) (by kernel_rfl) (fun _ _ _ h => h) (Or.inl ⟨by rfl, ?hygr26⟩) (by assumption) ?restgr26
    case hygr26 => (intro w hSw; (try dsimp only at hSw); go_simp <;> with_reducible rfl)
    try simp only [Act.put, List.setIfInBounds_toArray, List.set_cons_zero, List.set_cons_succ]
    refine wpAnyH_take (i := 27) (oi := { dst := some 166, op := Op.move (Operand.tmp 4), type := 3, pos := "law.go:104", after := _, guard := some (19, false) }) (v := ?vgr27) rfl (by kernel_rfl) (by kernel_rfl) (by kernel_rfl) (fun _ _ _ h => h) (Or.inl ⟨by rfl, ?hygr27⟩) (by assumption) ?restgr27
    case hygr27 => (intro w hSw; (try dsimp only at hSw); go_simp <;> with_reducible rfl)
    try simp only [Act.put, List.setIfInBounds_toArray, List.set_cons_zero, List.set_cons_succ]
    refine wpAnyH_take (i := 28) (oi := { dst := some 167, op := Op.indexAddr 23 (Operand.tmp 165) (Operand.tmp 166), type := 0, pos := "law.go:104", after := _, guard := some (19, false) }) (v := ?vgr28) rfl (by kernel_rfl) (by kernel_rfl) (by kernel_rfl) (fun _ _ _ h => h) (Or.inl ⟨by rfl, ?hygr28⟩) (by assumption) ?restgr28
    case hygr28 => (intro w hSw; (try dsimp only at hSw); go_simp <;> with_reducible rfl)
    try simp only [Act.put, List.setIfInBounds_toArray, List.set_cons_zero, List.set_cons_succ]
    refine wpAnyH_take (i := 29) (oi := { dst := some 168, op := Op.load 37 (Operand.tmp 167), type := 37, pos := "law.go:104", after := _, guard := some (19, false) }) (v := ?vgr29) rfl (by kernel_rfl) (by kernel_rfl) (by kernel_rfl) (fun _ _ _ h => h) (Or.inl ⟨by rfl, ?hygr29⟩) (by assumption) ?restgr29
    case hygr29 => (intro w hSw; (try dsimp only at hSw); go_simp <;> with_reducible rfl)
    try simp only [Act.put, List.setIfInBounds_toArray, List.set_cons_zero, List.set_cons_succ]
    refine wpAnyH_take (i := 30) (oi := { dst := some 169, op := Op.binOp BinOp.eql 37 (Operand.tmp 163) (Operand.tmp 168) 37, type := 4, pos := "law.go:104", after := _, guard := some (19, false) }) (v := ?vgr30) rfl (by kernel_rfl) (by kernel_rfl) (by kernel_rfl) (fun _ _ _ h => h) (Or.inl ⟨by rfl, ?hygr30⟩) (by assumption) ?restgr30
    case hygr30 => (intro w hSw; (try dsimp only at hSw); go_simp <;> with_reducible rfl)
    try simp only [Act.put, List.setIfInBounds_toArray, List.set_cons_zero, List.set_cons_succ]
    refine wpAnyH_take (i := 31) (oi := { dst := some 170, op := Op.pick (Operand.tmp 158) (Operand.const (Value.bool true)) (Operand.tmp 169), type := 4, pos := "law.go:104", after := _, guard := none }) (v := ?vgr31) rfl (by kernel_rfl) (by kernel_rfl) (by kernel_rfl) (fun _ _ _ h => h) (Or.inl ⟨by rfl, ?hygr31⟩) (by assumption) ?restgr31
    case hygr31 => (intro w hSw; (try dsimp only at hSw); go_simp <;> with_reducible rfl)
    try simp only [Act.put, List.setIfInBounds_toArray, List.set_cons_zero, List.set_cons_succ]
    refine wpAnyH_ready (rs := [32]) (by kernel_rfl) (by simp) ?_
    refine AllReadyH.cons (o := { dst := some 10, op := Op.assign (Operand.tmp 170), type := 4, pos := "law.go:104", after := _, guard := none }) rfl (fun K hK => ?_) AllReadyH.nil
    go_simp
    skip
    refine hK.out _ _ ?_ (fun hHeldgr32 => ?_)
    · exact ⟨(BW3.cell (p := ⟨w.heap.size, 0, none⟩) sl).trans cs0, (BW3.cell (p := ⟨w.heap.size, 1, none⟩) sl).trans cs1, (BW3.cell (p := ⟨w3.heap.size, 0, none⟩) al).trans ca0, (BW3.cell (p := ⟨w3.heap.size, 1, none⟩) al).trans ca1, (BW3.cell (p := ⟨b0, o0 + j * 5, none⟩) hlb0).trans s0, (BW3.cell (p := ⟨b0, o0 + j * 5 + 1, none⟩) hlb0).trans s1, (BW3.cell (p := ⟨b0, o0 + j * 5 + 2, none⟩) hlb0).trans s2, (BW3.cell (p := ⟨b0, o0 + j * 5 + 3, none⟩) hlb0).trans s3, (BW3.cell (p := ⟨b0, o0 + j * 5 + 4, none⟩) hlb0).trans s4, (BW3.cell (p := ⟨bA, oA + j * 5, none⟩) hlbA).trans t0, (BW3.cell (p := ⟨bA, oA + j * 5 + 1, none⟩) hlbA).trans t1, (BW3.cell (p := ⟨bA, oA + j * 5 + 2, none⟩) hlbA).trans t2, (BW3.cell (p := ⟨bA, oA + j * 5 + 3, none⟩) hlbA).trans t3, (BW3.cell (p := ⟨bA, oA + j * 5 + 4, none⟩) hlbA).trans t4⟩
    clear hK K hHeldgr
    try simp only [Act.put, List.setIfInBounds_toArray, List.set_cons_zero, List.set_cons_succ]
    refine wpAnyH_done (by kernel_rfl) ?_ _
    go_wp2
    go_ret
    exact ⟨rfl, hY5.trans (BW3.mono hY5.size)⟩

set_option maxRecDepth 100000 in
set_option maxHeartbeats 8000000 in
theorem pw_oth (w : World) (A0 : Option Addr) (c0 : Nat) (cap0 : Int) (ps0 qsA : List Pg) (n m a : Nat) (v k : Int) (x0 : Pg) (hst0 : StV w (.agg #[.int .i64 cap0, .slice A0 ps0.length c0]) cap0 ps0) (hm : mayP cap0 ps0 = true)
    (hA : writeL cap0 ps0 n m v = ((a : Int), 0, qsA)) (hqA : qsA.length ≤ 12) (hm4 : m < 4) (hn : n < ps0.length) (ha : a < qsA.length) (hx0 : ps0[n] = x0)
    (hqa : qsA[a] = ⟨1, (wset x0 m v).a, (wset x0 m v).b, (wset x0 m v).c, (wset x0 m v).d⟩) (hna : ((a : Int) == (n : Int)) = false) (hr : (x0.r == 1) = false) (hnq : n < qsA.length) (xn : Pg) (hqn : qsA[n] = { x0 with r := x0.r - 1 }) (hr1 : 1 ≤ x0.r) (hr2 : x0.r ≤ 1000) (hall : ∀ k, k < ps0.length → k ≠ n → k ≠ a → qsA[k]? = ps0[k]?) :
    Calls Try.prog 4 #[.agg #[.int .i64 cap0, .slice A0 ps0.length c0], .int .i64 (n : Int), .int .i64 (m : Int), .int .i64 v, .int .i64 k] w fun e w' => e = .returned (.bool true) ∧ Below w.heap.size w w' := by
  have hlen := may_len hm
  have hmay := fun sv W h => may_any cap0 sv ps0 W h
  rw [hm] at hmay
  have cA := fun x W hs => Write_any x cap0 ps0 n m v W hs (by omega)
  rw [hA] at cA
  have hww := wset_words x0 m v hm4
  have hn0 : (0 : Int) ≤ (n : Int) := by omega
  have hn1 : (n : Int) < (ps0.length : Int) := by omega
  have ha0 : (0 : Int) ≤ (a : Int) := by omega
  have ha1 : (a : Int) < (qsA.length : Int) := by omega
  have hm0 : (0 : Int) ≤ (m : Int) := by omega
  have hm1 : (m : Int) < 4 := by omega
  have hm2 : (m : Int) ≤ 3 := by omega
  have HA := Lib.hid hall
  have HWW := Lib.hid hww
  clear hlen hm hA hall hww
  have hn2 : (n : Int) < (qsA.length : Int) := by omega
  have hne : ((a : Int) != (n : Int)) = true := by simpa using hna
  have hwr : IntKind.i64.wrap (x0.r - 1) = x0.r - 1 := by rw [IntKind.wrap_i64]; omega
  go_enter Try.func4, Try.ntmps4
  have hA0 := ((Below.refl w.heap.size w).alloc (Nat.le_refl _) (.cells #[.int .i64 cap0, .slice A0 ps0.length c0] 25))
  replace hst0 := hst0.keep hA0
  have kS := Blk.new_ w 25 #[.int .i64 cap0, .slice A0 ps0.length c0] (w.heap.size) (by simp)
  have hZ0 : Below w.heap.size w _ := hA0
  go_wp2_with fail
  refine (awake_any _).mono ?_
  rintro e w1 ⟨rfl, hb1⟩
  obtain ⟨hc1, hf1⟩ := bcell hb1
  have hz1 := hb1.size
  simp at hz1
  replace hst0 := hst0.keep hb1
  replace kS := kS.keep hb1
  have hY1 := hZ0.trans (hb1.mono hZ0.size)
  have zkS_1 : w.heap.size < w1.heap.size := by omega
  have hZ1 : Below w.heap.size w w1 := hY1
  go_wp2_with fail
  refine (hmay _ _ hst0.sl).mono ?_
  rintro e w2 ⟨rfl, hb2⟩
  obtain ⟨hc2, hf2⟩ := bcell hb2
  have hz2 := hb2.size
  replace hst0 := hst0.keep hb2
  replace kS := kS.keep hb2
  have hY2 := hZ1.trans (hb2.mono hZ1.size)
  have zkS_2 : w.heap.size < w2.heap.size := by omega
  have hZ2 : Below w.heap.size w w2 := hY2
  go_wp2_with fail
  refine (cA _ _ hst0).mono ?_
  rintro e w3 ⟨v3, rfl, hstA, hb3⟩
  obtain ⟨hc3, hf3⟩ := bcell hb3
  have hz3 := hb3.size
  replace hst0 := hst0.keep hb3
  replace kS := kS.keep hb3
  have hY3 := hZ2.trans (hb3.mono hZ2.size)
  have zkS_3 : w.heap.size < w3.heap.size := by omega
  obtain ⟨AA, dA, rfl, hstA⟩ := hstA.form
  obtain ⟨bA, oA, rfl, hltA, -, helA⟩ := hstA.elem (by omega)
  obtain ⟨b0, o0, rfl, hlt0, -, hel0⟩ := hst0.elem (by omega)
  have p0 : w3.cell? ⟨bA, oA + a * 5, none⟩ = some (.int .i64 1) := by have h := helA w3 (Below.refl _ _) a ha 0 _ rfl; rw [hqa] at h; exact h
  have p1 : w3.cell? ⟨bA, oA + a * 5 + 1, none⟩ = some (.int .i64 (wset x0 m v).a) := by have h := helA w3 (Below.refl _ _) a ha 1 _ rfl; rw [hqa] at h; exact h
  have p2 : w3.cell? ⟨bA, oA + a * 5 + 2, none⟩ = some (.int .i64 (wset x0 m v).b) := by have h := helA w3 (Below.refl _ _) a ha 2 _ rfl; rw [hqa] at h; exact h
  have p3 : w3.cell? ⟨bA, oA + a * 5 + 3, none⟩ = some (.int .i64 (wset x0 m v).c) := by have h := helA w3 (Below.refl _ _) a ha 3 _ rfl; rw [hqa] at h; exact h
  have p4 : w3.cell? ⟨bA, oA + a * 5 + 4, none⟩ = some (.int .i64 (wset x0 m v).d) := by have h := helA w3 (Below.refl _ _) a ha 4 _ rfl; rw [hqa] at h; exact h
  have q0 : w3.cell? ⟨b0, o0 + n * 5, none⟩ = some (.int .i64 x0.r) := by have h := hel0 w3 (Below.refl _ _) n hn 0 _ rfl; rw [hx0] at h; exact h
  have q1 : w3.cell? ⟨b0, o0 + n * 5 + 1, none⟩ = some (.int .i64 x0.a) := by have h := hel0 w3 (Below.refl _ _) n hn 1 _ rfl; rw [hx0] at h; exact h
  have q2 : w3.cell? ⟨b0, o0 + n * 5 + 2, none⟩ = some (.int .i64 x0.b) := by have h := hel0 w3 (Below.refl _ _) n hn 2 _ rfl; rw [hx0] at h; exact h
  have q3 : w3.cell? ⟨b0, o0 + n * 5 + 3, none⟩ = some (.int .i64 x0.c) := by have h := hel0 w3 (Below.refl _ _) n hn 3 _ rfl; rw [hx0] at h; exact h
  have q4 : w3.cell? ⟨b0, o0 + n * 5 + 4, none⟩ = some (.int .i64 x0.d) := by have h := hel0 w3 (Below.refl _ _) n hn 4 _ rfl; rw [hx0] at h; exact h
  go_upto_region 10 with fail
  have hA3 := (((Below.refl w3.heap.size w3).alloc (Nat.le_refl _) (.cells #[.int .i64 cap0, .slice (some ⟨bA, oA, none⟩) qsA.length dA] 25)).alloc (by simp) (.cells #[.int .i64 x0.a, .int .i64 x0.b, .int .i64 x0.c, .int .i64 x0.d] 35))
  replace hst0 := hst0.keep hA3
  replace kS := kS.keep hA3
  replace hstA := hstA.keep hA3
  have kA := (Blk.new_ w3 25 #[.int .i64 cap0, .slice (some ⟨bA, oA, none⟩) qsA.length dA] (w3.heap.size) (by simp)).alloc (.cells #[.int .i64 x0.a, .int .i64 x0.b, .int .i64 x0.c, .int .i64 x0.d] 35)
  have kW := Blk.new_ (w3.alloc (.cells #[.int .i64 cap0, .slice (some ⟨bA, oA, none⟩) qsA.length dA] 25)) 35 #[.int .i64 x0.a, .int .i64 x0.b, .int .i64 x0.c, .int .i64 x0.d] (w3.heap.size + 1) (by simp)
  have hZ3 : Below w.heap.size w _ := hY3.trans (hA3.mono hY3.size)
  have hz4 : w3.heap.size + 2 ≤ (((w3.alloc (.cells #[.int .i64 cap0, .slice (some ⟨bA, oA, none⟩) qsA.length dA] 25)).alloc (.cells #[.int .i64 x0.a, .int .i64 x0.b, .int .i64 x0.c, .int .i64 x0.d] 35))).heap.size := by simp
  obtain ⟨w4, hw4⟩ : ∃ x, ((w3.alloc (.cells #[.int .i64 cap0, .slice (some ⟨bA, oA, none⟩) qsA.length dA] 25)).alloc (.cells #[.int .i64 x0.a, .int .i64 x0.b, .int .i64 x0.c, .int .i64 x0.d] 35)) = x := ⟨_, rfl⟩
  rw [hw4] at hst0
  rw [hw4] at kS
  rw [hw4] at hstA
  rw [hw4] at kA
  rw [hw4] at kW
  have hY4 := hZ3
  have hD4 := hA3
  rw [hw4] at hY4 hD4 hz4 ⊢
  clear hw4
  have kWf := kW.free m
  have kWc : ∃ u, w4.cell? ⟨w3.heap.size + 1, m, none⟩ = some u := ⟨_, (kW.cell m).trans (Array.getElem?_eq_getElem (by simpa using hm4))⟩
  obtain ⟨uu, kWc⟩ := kWc
  go_upto_region 11 with fail
  have kW2 := kW.set_ m (.int .i64 v)
  rw [HWW.out] at kW2
  have kS2 := kS.far (p := ⟨w3.heap.size + 1, m, none⟩) (by simp; omega) (.int .i64 v)
  have kA2 := kA.far (p := ⟨w3.heap.size + 1, m, none⟩) (by simp) (.int .i64 v)
  have hD5 := hD4.setCell (p := ⟨w3.heap.size + 1, m, none⟩) (by simp) (.int .i64 v)
  have hY5 := hY4.setCell (p := ⟨w3.heap.size + 1, m, none⟩) (by have := hY3.size; simp; omega) (.int .i64 v)
  obtain ⟨w5, hw5⟩ : ∃ x, w4.setCell ⟨w3.heap.size + 1, m, none⟩ (.int .i64 v) = x := ⟨_, rfl⟩
  rw [hw5] at kW2 kS2 kA2 hD5 hY5 ⊢
  clear hw5 kW kS kA hD4 hY4 hst0 hstA kWf kWc
  clear p0 q0
  clear p1 q1
  clear p2 q2
  clear p3 q3
  clear p4 q4
  have sl := kS2.lt
  have al := kA2.lt
  have wl := kW2.lt
  have hlbA : bA < w5.heap.size := Nat.lt_of_lt_of_le hltA hD5.size
  have hlb0 : b0 < w5.heap.size := Nat.lt_of_lt_of_le hlt0 hD5.size
  have cs0 : w5.cell? ⟨w.heap.size, 0, none⟩ = some (.int .i64 cap0) := by rw [kS2.cell]; rfl
  have cs1 : w5.cell? ⟨w.heap.size, 1, none⟩ = some (.slice (some ⟨b0, o0, none⟩) ps0.length c0) := by rw [kS2.cell]; rfl
  have ca0 : w5.cell? ⟨w3.heap.size, 0, none⟩ = some (.int .i64 cap0) := by rw [kA2.cell]; rfl
  have ca1 : w5.cell? ⟨w3.heap.size, 1, none⟩ = some (.slice (some ⟨bA, oA, none⟩) qsA.length dA) := by rw [kA2.cell]; rfl
  have cw0 : w5.cell? ⟨w3.heap.size + 1, 0, none⟩ = some (.int .i64 (wset x0 m v).a) := by rw [kW2.cell]; rfl
  have cw1 : w5.cell? ⟨w3.heap.size + 1, 1, none⟩ = some (.int .i64 (wset x0 m v).b) := by rw [kW2.cell]; rfl
  have cw2 : w5.cell? ⟨w3.heap.size + 1, 2, none⟩ = some (.int .i64 (wset x0 m v).c) := by rw [kW2.cell]; rfl
  have cw3 : w5.cell? ⟨w3.heap.size + 1, 3, none⟩ = some (.int .i64 (wset x0 m v).d) := by rw [kW2.cell]; rfl
  have p0 : w5.cell? ⟨bA, oA + a * 5, none⟩ = some (.int .i64 1) := by have h := helA w5 hD5 a ha 0 _ rfl; rw [hqa] at h; exact h
  have p1 : w5.cell? ⟨bA, oA + a * 5 + 1, none⟩ = some (.int .i64 (wset x0 m v).a) := by have h := helA w5 hD5 a ha 1 _ rfl; rw [hqa] at h; exact h
  have p2 : w5.cell? ⟨bA, oA + a * 5 + 2, none⟩ = some (.int .i64 (wset x0 m v).b) := by have h := helA w5 hD5 a ha 2 _ rfl; rw [hqa] at h; exact h
  have p3 : w5.cell? ⟨bA, oA + a * 5 + 3, none⟩ = some (.int .i64 (wset x0 m v).c) := by have h := helA w5 hD5 a ha 3 _ rfl; rw [hqa] at h; exact h
  have p4 : w5.cell? ⟨bA, oA + a * 5 + 4, none⟩ = some (.int .i64 (wset x0 m v).d) := by have h := helA w5 hD5 a ha 4 _ rfl; rw [hqa] at h; exact h
  have q0 : w5.cell? ⟨b0, o0 + n * 5, none⟩ = some (.int .i64 x0.r) := by have h := hel0 w5 hD5 n hn 0 _ rfl; rw [hx0] at h; exact h
  have q1 : w5.cell? ⟨b0, o0 + n * 5 + 1, none⟩ = some (.int .i64 x0.a) := by have h := hel0 w5 hD5 n hn 1 _ rfl; rw [hx0] at h; exact h
  have q2 : w5.cell? ⟨b0, o0 + n * 5 + 2, none⟩ = some (.int .i64 x0.b) := by have h := hel0 w5 hD5 n hn 2 _ rfl; rw [hx0] at h; exact h
  have q3 : w5.cell? ⟨b0, o0 + n * 5 + 3, none⟩ = some (.int .i64 x0.c) := by have h := hel0 w5 hD5 n hn 3 _ rfl; rw [hx0] at h; exact h
  have q4 : w5.cell? ⟨b0, o0 + n * 5 + 4, none⟩ = some (.int .i64 x0.d) := by have h := hel0 w5 hD5 n hn 4 _ rfl; rw [hx0] at h; exact h
  have r0 : w5.cell? ⟨bA, oA + n * 5, none⟩ = some (.int .i64 (x0.r - 1)) := by have h := helA w5 hD5 n hnq 0 _ rfl; rw [hqn] at h; exact h
  have r1 : w5.cell? ⟨bA, oA + n * 5 + 1, none⟩ = some (.int .i64 x0.a) := by have h := helA w5 hD5 n hnq 1 _ rfl; rw [hqn] at h; exact h
  have r2 : w5.cell? ⟨bA, oA + n * 5 + 2, none⟩ = some (.int .i64 x0.b) := by have h := helA w5 hD5 n hnq 2 _ rfl; rw [hqn] at h; exact h
  have r3 : w5.cell? ⟨bA, oA + n * 5 + 3, none⟩ = some (.int .i64 x0.c) := by have h := helA w5 hD5 n hnq 3 _ rfl; rw [hqn] at h; exact h
  have r4 : w5.cell? ⟨bA, oA + n * 5 + 4, none⟩ = some (.int .i64 x0.d) := by have h := helA w5 hD5 n hnq 4 _ rfl; rw [hqn] at h; exact h
  have nw := fun w => neq_words (wset x0 m v).a (wset x0 m v).b (wset x0 m v).c (wset x0 m v).d (wset x0 m v).a (wset x0 m v).b (wset x0 m v).c (wset x0 m v).d w
  simp only [beq_self_eq_true, Bool.and_self, Bool.not_true] at nw
  have gw := fun op x y w => guard_words op x y (wset x0 m v).a (wset x0 m v).b (wset x0 m v).c (wset x0 m v).d (wset x0 m v).a (wset x0 m v).b (wset x0 m v).c (wset x0 m v).d w
  have BW1 := (Below.refl w5.heap.size w5).drew
  refine wp_region_held_drew (S := fun w' => w'.cell? ⟨w3.heap.size, 0, none⟩ = some (.int .i64 cap0) ∧ w'.cell? ⟨w3.heap.size, 1, none⟩ = some (.slice (some ⟨bA, oA, none⟩) qsA.length dA) ∧ w'.cell? ⟨w3.heap.size + 1, 0, none⟩ = some (.int .i64 (wset x0 m v).a) ∧ w'.cell? ⟨w3.heap.size + 1, 1, none⟩ = some (.int .i64 (wset x0 m v).b) ∧ w'.cell? ⟨w3.heap.size + 1, 2, none⟩ = some (.int .i64 (wset x0 m v).c) ∧ w'.cell? ⟨w3.heap.size + 1, 3, none⟩ = some (.int .i64 (wset x0 m v).d) ∧ w'.cell? ⟨bA, oA + a * 5 + 1, none⟩ = some (.int .i64 (wset x0 m v).a) ∧ w'.cell? ⟨bA, oA + a * 5 + 2, none⟩ = some (.int .i64 (wset x0 m v).b) ∧ w'.cell? ⟨bA, oA + a * 5 + 3, none⟩ = some (.int .i64 (wset x0 m v).c) ∧ w'.cell? ⟨bA, oA + a * 5 + 4, none⟩ = some (.int .i64 (wset x0 m v).d)) (by kernel_rfl) ?_ (fun hHeldhr => ?_)
  · exact ⟨(BW1.cell (p := ⟨w3.heap.size, 0, none⟩) al).trans ca0, (BW1.cell (p := ⟨w3.heap.size, 1, none⟩) al).trans ca1, (BW1.cell (p := ⟨w3.heap.size + 1, 0, none⟩) wl).trans cw0, (BW1.cell (p := ⟨w3.heap.size + 1, 1, none⟩) wl).trans cw1, (BW1.cell (p := ⟨w3.heap.size + 1, 2, none⟩) wl).trans cw2, (BW1.cell (p := ⟨w3.heap.size + 1, 3, none⟩) wl).trans cw3, (BW1.cell (p := ⟨bA, oA + a * 5 + 1, none⟩) hlbA).trans p1, (BW1.cell (p := ⟨bA, oA + a * 5 + 2, none⟩) hlbA).trans p2, (BW1.cell (p := ⟨bA, oA + a * 5 + 3, none⟩) hlbA).trans p3, (BW1.cell (p := ⟨bA, oA + a * 5 + 4, none⟩) hlbA).trans p4⟩
  refine wpAnyH_take (i := 0) (oi := { dst := some 97, op := Op.fieldAddr 25 (Operand.tmp 12) 1, type := 0, pos := "law.go:98", after := _, guard := none }) (v := ?vhr0) rfl (by kernel_rfl) (by kernel_rfl) (by kernel_rfl) (fun _ _ _ h => h) (Or.inl ⟨by rfl, ?hyhr0⟩) (by assumption) ?resthr0
  case hyhr0 => (intro w hSw; (try dsimp only at hSw); go_simp <;> with_reducible rfl)
  try simp only [Act.put, List.setIfInBounds_toArray, List.set_cons_zero, List.set_cons_succ]
  refine wpAnyH_take (i := 1) (oi := { dst := some 98, op := Op.load 23 (Operand.tmp 97), type := 23, pos := "law.go:98", after := _, guard := none }) (v := ?vhr1) rfl (by kernel_rfl) (by kernel_rfl) (by kernel_rfl) (fun _ _ _ h => h) (Or.inl ⟨by rfl, ?hyhr1⟩) (by assumption) ?resthr1
  case hyhr1 => (intro w hSw; (try dsimp only at hSw); go_simp <;> with_reducible rfl)
  try simp only [Act.put, List.setIfInBounds_toArray, List.set_cons_zero, List.set_cons_succ]
  refine wpAnyH_take (i := 2) (oi := { dst := some 99, op := Op.move (Operand.tmp 13), type := 3, pos := "law.go:98", after := _, guard := none }) (v := ?vhr2) rfl (by kernel_rfl) (by kernel_rfl) (by kernel_rfl) (fun _ _ _ h => h) (Or.inl ⟨by rfl, ?hyhr2⟩) (by assumption) ?resthr2
  case hyhr2 => (intro w hSw; (try dsimp only at hSw); go_simp <;> with_reducible rfl)
  try simp only [Act.put, List.setIfInBounds_toArray, List.set_cons_zero, List.set_cons_succ]
  refine wpAnyH_take (i := 3) (oi := { dst := some 100, op := Op.indexAddr 23 (Operand.tmp 98) (Operand.tmp 99), type := 0, pos := "law.go:98", after := _, guard := none }) (v := ?vhr3) rfl (by kernel_rfl) (by kernel_rfl) (by kernel_rfl) (fun _ _ _ h => h) (Or.inl ⟨by rfl, ?hyhr3⟩) (by assumption) ?resthr3
  case hyhr3 => (intro w hSw; (try dsimp only at hSw); go_simp <;> with_reducible rfl)
  try simp only [Act.put, List.setIfInBounds_toArray, List.set_cons_zero, List.set_cons_succ]
  refine wpAnyH_take (i := 4) (oi := { dst := some 101, op := Op.fieldAddr 37 (Operand.tmp 100) 1, type := 0, pos := "law.go:98", after := _, guard := none }) (v := ?vhr4) rfl (by kernel_rfl) (by kernel_rfl) (by kernel_rfl) (fun _ _ _ h => h) (Or.inl ⟨by rfl, ?hyhr4⟩) (by assumption) ?resthr4
  case hyhr4 => (intro w hSw; (try dsimp only at hSw); go_simp <;> with_reducible rfl)
  try simp only [Act.put, List.setIfInBounds_toArray, List.set_cons_zero, List.set_cons_succ]
  refine wpAnyH_take (i := 5) (oi := { dst := some 102, op := Op.load 35 (Operand.tmp 101), type := 35, pos := "law.go:98", after := _, guard := none }) (v := ?vhr5) rfl (by kernel_rfl) (by kernel_rfl) (by kernel_rfl) (fun _ _ _ h => h) (Or.inl ⟨by rfl, ?hyhr5⟩) (by assumption) ?resthr5
  case hyhr5 => (intro w hSw; (try dsimp only at hSw); go_simp <;> with_reducible rfl)
  try simp only [Act.put, List.setIfInBounds_toArray, List.set_cons_zero, List.set_cons_succ]
  refine wpAnyH_take (i := 6) (oi := { dst := some 103, op := Op.load 35 (Operand.tmp 15), type := 35, pos := "law.go:98", after := _, guard := none }) (v := ?vhr6) rfl (by kernel_rfl) (by kernel_rfl) (by kernel_rfl) (fun _ _ _ h => h) (Or.inl ⟨by rfl, ?hyhr6⟩) (by assumption) ?resthr6
  case hyhr6 => (intro w hSw; (try dsimp only at hSw); go_simp <;> with_reducible rfl)
  try simp only [Act.put, List.setIfInBounds_toArray, List.set_cons_zero, List.set_cons_succ]
  refine wpAnyH_take (i := 7) (oi := { dst := some 104, op := Op.binOp BinOp.neq 35 (Operand.tmp 102) (Operand.tmp 103) 35, type := 4, pos := "law.go:98", after := _, guard := none }) (v := ?vhr7) rfl (by kernel_rfl) (by kernel_rfl) (by kernel_rfl) (fun _ _ _ h => h) (Or.inl ⟨by rfl, ?hyhr7⟩) (by assumption) ?resthr7
  case hyhr7 => (intro w hSw; (try dsimp only at hSw); go_simp <;> with_reducible rfl)
  try simp only [Act.put, List.setIfInBounds_toArray, List.set_cons_zero, List.set_cons_succ]
  refine wpAnyH_done (by kernel_rfl) ?_ _
  clear nw gw
  go_upto_region 13 with fail
  have nw := fun w => neq_words x0.a x0.b x0.c x0.d x0.a x0.b x0.c x0.d w
  simp only [beq_self_eq_true, Bool.and_self, Bool.not_true] at nw
  have gw := fun op x y w => guard_words op x y x0.a x0.b x0.c x0.d x0.a x0.b x0.c x0.d w
  have BW2 := (Below.refl w5.heap.size w5).drew.drew
  refine wp_region_held_drew (S := fun w' => w'.cell? ⟨w.heap.size, 0, none⟩ = some (.int .i64 cap0) ∧ w'.cell? ⟨w.heap.size, 1, none⟩ = some (.slice (some ⟨b0, o0, none⟩) ps0.length c0) ∧ w'.cell? ⟨w3.heap.size, 0, none⟩ = some (.int .i64 cap0) ∧ w'.cell? ⟨w3.heap.size, 1, none⟩ = some (.slice (some ⟨bA, oA, none⟩) qsA.length dA) ∧ w'.cell? ⟨b0, o0 + n * 5, none⟩ = some (.int .i64 x0.r) ∧ w'.cell? ⟨b0, o0 + n * 5 + 1, none⟩ = some (.int .i64 x0.a) ∧ w'.cell? ⟨b0, o0 + n * 5 + 2, none⟩ = some (.int .i64 x0.b) ∧ w'.cell? ⟨b0, o0 + n * 5 + 3, none⟩ = some (.int .i64 x0.c) ∧ w'.cell? ⟨b0, o0 + n * 5 + 4, none⟩ = some (.int .i64 x0.d) ∧ w'.cell? ⟨bA, oA + n * 5, none⟩ = some (.int .i64 (x0.r - 1)) ∧ w'.cell? ⟨bA, oA + n * 5 + 1, none⟩ = some (.int .i64 x0.a) ∧ w'.cell? ⟨bA, oA + n * 5 + 2, none⟩ = some (.int .i64 x0.b) ∧ w'.cell? ⟨bA, oA + n * 5 + 3, none⟩ = some (.int .i64 x0.c) ∧ w'.cell? ⟨bA, oA + n * 5 + 4, none⟩ = some (.int .i64 x0.d)) (by kernel_rfl) ?_ (fun hHeldir => ?_)
  · exact ⟨(BW2.cell (p := ⟨w.heap.size, 0, none⟩) sl).trans cs0, (BW2.cell (p := ⟨w.heap.size, 1, none⟩) sl).trans cs1, (BW2.cell (p := ⟨w3.heap.size, 0, none⟩) al).trans ca0, (BW2.cell (p := ⟨w3.heap.size, 1, none⟩) al).trans ca1, (BW2.cell (p := ⟨b0, o0 + n * 5, none⟩) hlb0).trans q0, (BW2.cell (p := ⟨b0, o0 + n * 5 + 1, none⟩) hlb0).trans q1, (BW2.cell (p := ⟨b0, o0 + n * 5 + 2, none⟩) hlb0).trans q2, (BW2.cell (p := ⟨b0, o0 + n * 5 + 3, none⟩) hlb0).trans q3, (BW2.cell (p := ⟨b0, o0 + n * 5 + 4, none⟩) hlb0).trans q4, (BW2.cell (p := ⟨bA, oA + n * 5, none⟩) hlbA).trans r0, (BW2.cell (p := ⟨bA, oA + n * 5 + 1, none⟩) hlbA).trans r1, (BW2.cell (p := ⟨bA, oA + n * 5 + 2, none⟩) hlbA).trans r2, (BW2.cell (p := ⟨bA, oA + n * 5 + 3, none⟩) hlbA).trans r3, (BW2.cell (p := ⟨bA, oA + n * 5 + 4, none⟩) hlbA).trans r4⟩
  refine wpAnyH_take (i := 0) (oi := { dst := some 105, op := Op.move (Operand.tmp 13), type := 3, pos := "law.go:101", after := _, guard := none }) (v := ?vir0) rfl (by kernel_rfl) (by kernel_rfl) (by kernel_rfl) (fun _ _ _ h => h) (Or.inl ⟨by rfl, ?hyir0⟩) (by assumption) ?restir0
  case hyir0 => (intro w hSw; (try dsimp only at hSw); go_simp <;> with_reducible rfl)
  try simp only [Act.put, List.setIfInBounds_toArray, List.set_cons_zero, List.set_cons_succ]
  refine wpAnyH_take (i := 1) (oi := { dst := some 106, op := Op.move (Operand.tmp 1), type := 3, pos := "law.go:101", after := _, guard := none }) (v := ?vir1) rfl (by kernel_rfl) (by kernel_rfl) (by kernel_rfl) (fun _ _ _ h => h) (Or.inl ⟨by rfl, ?hyir1⟩) (by assumption) ?restir1
  case hyir1 => (intro w hSw; (try dsimp only at hSw); go_simp <;> with_reducible rfl)
  try simp only [Act.put, List.setIfInBounds_toArray, List.set_cons_zero, List.set_cons_succ]
  refine wpAnyH_take (i := 2) (oi := { dst := some 107, op := Op.binOp BinOp.neq 3 (Operand.tmp 105) (Operand.tmp 106) 3, type := 4, pos := "law.go:101", after := _, guard := none }) (v := ?vir2) rfl (by kernel_rfl) (by kernel_rfl) (by kernel_rfl) (fun _ _ _ h => h) (Or.inl ⟨by rfl, ?hyir2⟩) (by assumption) ?restir2
  case hyir2 => (intro w hSw; (try dsimp only at hSw); go_simp <;> with_reducible rfl)
  try simp only [Act.put, List.setIfInBounds_toArray, List.set_cons_zero, List.set_cons_succ]
  refine wpAnyH_take (i := 3) (oi := { dst := some 108, op := Op.move (Operand.tmp 107), type := 4, pos := "law.go:101", after := _, guard := none }) (v := ?vir3) rfl (by kernel_rfl) (by kernel_rfl) (by kernel_rfl) (fun _ _ _ h => h) (Or.inl ⟨by rfl, ?hyir3⟩) (by assumption) ?restir3
  case hyir3 => (intro w hSw; (try dsimp only at hSw); go_simp <;> with_reducible rfl)
  try simp only [Act.put, List.setIfInBounds_toArray, List.set_cons_zero, List.set_cons_succ]
  refine wpAnyH_take (i := 4) (oi := { dst := some 109, op := Op.fieldAddr 25 (Operand.tmp 12) 1, type := 0, pos := "law.go:101", after := _, guard := some (3, true) }) (v := ?vir4) rfl (by kernel_rfl) (by kernel_rfl) (by kernel_rfl) (fun _ _ _ h => h) (Or.inl ⟨by rfl, ?hyir4⟩) (by assumption) ?restir4
  case hyir4 => (intro w hSw; (try dsimp only at hSw); go_simp <;> with_reducible rfl)
  try simp only [Act.put, List.setIfInBounds_toArray, List.set_cons_zero, List.set_cons_succ]
  refine wpAnyH_take (i := 5) (oi := { dst := some 110, op := Op.load 23 (Operand.tmp 109), type := 23, pos := "law.go:101", after := _, guard := some (3, true) }) (v := ?vir5) rfl (by kernel_rfl) (by kernel_rfl) (by kernel_rfl) (fun _ _ _ h => h) (Or.inl ⟨by rfl, ?hyir5⟩) (by assumption) ?restir5
  case hyir5 => (intro w hSw; (try dsimp only at hSw); go_simp <;> with_reducible rfl)
  try simp only [Act.put, List.setIfInBounds_toArray, List.set_cons_zero, List.set_cons_succ]
  refine wpAnyH_take (i := 6) (oi := { dst := some 111, op := Op.move (Operand.tmp 1), type := 3, pos := "law.go:101", after := _, guard := some (3, true) }) (v := ?vir6) rfl (by kernel_rfl) (by kernel_rfl) (by kernel_rfl) (fun _ _ _ h => h) (Or.inl ⟨by rfl, ?hyir6⟩) (by assumption) ?restir6
  case hyir6 => (intro w hSw; (try dsimp only at hSw); go_simp <;> with_reducible rfl)
  try simp only [Act.put, List.setIfInBounds_toArray, List.set_cons_zero, List.set_cons_succ]
  refine wpAnyH_take (i := 7) (oi := { dst := some 112, op := Op.indexAddr 23 (Operand.tmp 110) (Operand.tmp 111), type := 0, pos := "law.go:101", after := _, guard := some (3, true) }) (v := ?vir7) rfl (by kernel_rfl) (by kernel_rfl) (by kernel_rfl) (fun _ _ _ h => h) (Or.inl ⟨by rfl, ?hyir7⟩) (by assumption) ?restir7
  case hyir7 => (intro w hSw; (try dsimp only at hSw); go_simp <;> with_reducible rfl)
  try simp only [Act.put, List.setIfInBounds_toArray, List.set_cons_zero, List.set_cons_succ]
  refine wpAnyH_take (i := 8) (oi := { dst := some 113, op := Op.fieldAddr 37 (Operand.tmp 112) 1, type := 0, pos := "law.go:101", after := _, guard := some (3, true) }) (v := ?vir8) rfl (by kernel_rfl) (by kernel_rfl) (by kernel_rfl) (fun _ _ _ h => h) (Or.inl ⟨by rfl, ?hyir8⟩) (by assumption) ?restir8
  case hyir8 => (intro w hSw; (try dsimp only at hSw); go_simp <;> with_reducible rfl)
  try simp only [Act.put, List.setIfInBounds_toArray, List.set_cons_zero, List.set_cons_succ]
  refine wpAnyH_take (i := 9) (oi := { dst := some 114, op := Op.load 35 (Operand.tmp 113), type := 35, pos := "law.go:101", after := _, guard := some (3, true) }) (v := ?vir9) rfl (by kernel_rfl) (by kernel_rfl) (by kernel_rfl) (fun _ _ _ h => h) (Or.inl ⟨by rfl, ?hyir9⟩) (by assumption) ?restir9
  case hyir9 => (intro w hSw; (try dsimp only at hSw); go_simp <;> with_reducible rfl)
  try simp only [Act.put, List.setIfInBounds_toArray, List.set_cons_zero, List.set_cons_succ]
  refine wpAnyH_take (i := 10) (oi := { dst := some 115, op := Op.fieldAddr 25 (Operand.tmp 5) 1, type := 0, pos := "law.go:101", after := _, guard := some (3, true) }) (v := ?vir10) rfl (by kernel_rfl) (by kernel_rfl) (by kernel_rfl) (fun _ _ _ h => h) (Or.inl ⟨by rfl, ?hyir10⟩) (by assumption) ?restir10
  case hyir10 => (intro w hSw; (try dsimp only at hSw); go_simp <;> with_reducible rfl)
  try simp only [Act.put, List.setIfInBounds_toArray, List.set_cons_zero, List.set_cons_succ]
  refine wpAnyH_take (i := 11) (oi := { dst := some 116, op := Op.load 23 (Operand.tmp 115), type := 23, pos := "law.go:101", after := _, guard := some (3, true) }) (v := ?vir11) rfl (by kernel_rfl) (by kernel_rfl) (by kernel_rfl) (fun _ _ _ h => h) (Or.inl ⟨by rfl, ?hyir11⟩) (by assumption) ?restir11
  case hyir11 => (intro w hSw; (try dsimp only at hSw); go_simp <;> with_reducible rfl)
  try simp only [Act.put, List.setIfInBounds_toArray, List.set_cons_zero, List.set_cons_succ]
  refine wpAnyH_take (i := 12) (oi := { dst := some 117, op := Op.move (Operand.tmp 1), type := 3, pos := "law.go:101", after := _, guard := some (3, true) }) (v := ?vir12) rfl (by kernel_rfl) (by kernel_rfl) (by kernel_rfl) (fun _ _ _ h => h) (Or.inl ⟨by rfl, ?hyir12⟩) (by assumption) ?restir12
  case hyir12 => (intro w hSw; (try dsimp only at hSw); go_simp <;> with_reducible rfl)
  try simp only [Act.put, List.setIfInBounds_toArray, List.set_cons_zero, List.set_cons_succ]
  refine wpAnyH_take (i := 13) (oi := { dst := some 118, op := Op.indexAddr 23 (Operand.tmp 116) (Operand.tmp 117), type := 0, pos := "law.go:101", after := _, guard := some (3, true) }) (v := ?vir13) rfl (by kernel_rfl) (by kernel_rfl) (by kernel_rfl) (fun _ _ _ h => h) (Or.inl ⟨by rfl, ?hyir13⟩) (by assumption) ?restir13
  case hyir13 => (intro w hSw; (try dsimp only at hSw); go_simp <;> with_reducible rfl)
  try simp only [Act.put, List.setIfInBounds_toArray, List.set_cons_zero, List.set_cons_succ]
  refine wpAnyH_take (i := 14) (oi := { dst := some 119, op := Op.fieldAddr 37 (Operand.tmp 118) 1, type := 0, pos := "law.go:101", after := _, guard := some (3, true) }) (v := ?vir14) rfl (by kernel_rfl) (by kernel_rfl) (by kernel_rfl) (fun _ _ _ h => h) (Or.inl ⟨by rfl, ?hyir14⟩) (by assumption) ?restir14
  case hyir14 => (intro w hSw; (try dsimp only at hSw); go_simp <;> with_reducible rfl)
  try simp only [Act.put, List.setIfInBounds_toArray, List.set_cons_zero, List.set_cons_succ]
  refine wpAnyH_take (i := 15) (oi := { dst := some 120, op := Op.load 35 (Operand.tmp 119), type := 35, pos := "law.go:101", after := _, guard := some (3, true) }) (v := ?vir15) rfl (by kernel_rfl) (by kernel_rfl) (by kernel_rfl) (fun _ _ _ h => h) (Or.inl ⟨by rfl, ?hyir15⟩) (by assumption) ?restir15
  case hyir15 => (intro w hSw; (try dsimp only at hSw); go_simp <;> with_reducible rfl)
  try simp only [Act.put, List.setIfInBounds_toArray, List.set_cons_zero, List.set_cons_succ]
  refine wpAnyH_take (i := 16) (oi := { dst := some 121, op := Op.binOp BinOp.neq 35 (Operand.tmp 114) (Operand.tmp 120) 35, type := 4, pos := "law.go:101", after := _, guard := some (3, true) }) (v := ?vir16) rfl (by kernel_rfl) (by kernel_rfl) (by kernel_rfl) (fun _ _ _ h => h) (Or.inl ⟨by rfl, ?hyir16⟩) (by assumption) ?restir16
  case hyir16 => (intro w hSw; (try dsimp only at hSw); go_simp <;> with_reducible rfl)
  try simp only [Act.put, List.setIfInBounds_toArray, List.set_cons_zero, List.set_cons_succ]
  refine wpAnyH_take (i := 17) (oi := { dst := some 122, op := Op.move (Operand.tmp 121), type := 4, pos := "law.go:101", after := _, guard := some (3, true) }) (v := ?vir17) rfl (by kernel_rfl) (by kernel_rfl) (by kernel_rfl) (fun _ _ _ h => h) (Or.inl ⟨by rfl, ?hyir17⟩) (by assumption) ?restir17
  case hyir17 => (intro w hSw; (try dsimp only at hSw); go_simp <;> with_reducible rfl)
  try simp only [Act.put, List.setIfInBounds_toArray, List.set_cons_zero, List.set_cons_succ]
  refine wpAnyH_take (i := 18) (oi := { dst := some 123, op := Op.fieldAddr 25 (Operand.tmp 12) 1, type := 0, pos := "law.go:101", after := _, guard := some (17, false) }) (v := ?vir18) rfl (by kernel_rfl) (by kernel_rfl) (by kernel_rfl) (fun _ _ _ h => h) (Or.inl ⟨by rfl, ?hyir18⟩) (by assumption) ?restir18
  case hyir18 => (intro w hSw; (try dsimp only at hSw); go_simp <;> with_reducible rfl)
  try simp only [Act.put, List.setIfInBounds_toArray, List.set_cons_zero, List.set_cons_succ]
  refine wpAnyH_take (i := 19) (oi := { dst := some 124, op := Op.load 23 (Operand.tmp 123), type := 23, pos := "law.go:101", after := _, guard := some (17, false) }) (v := ?vir19) rfl (by kernel_rfl) (by kernel_rfl) (by kernel_rfl) (fun _ _ _ h => h) (Or.inl ⟨by rfl, ?hyir19⟩) (by assumption) ?restir19
  case hyir19 => (intro w hSw; (try dsimp only at hSw); go_simp <;> with_reducible rfl)
  try simp only [Act.put, List.setIfInBounds_toArray, List.set_cons_zero, List.set_cons_succ]
  refine wpAnyH_take (i := 20) (oi := { dst := some 125, op := Op.move (Operand.tmp 1), type := 3, pos := "law.go:101", after := _, guard := some (17, false) }) (v := ?vir20) rfl (by kernel_rfl) (by kernel_rfl) (by kernel_rfl) (fun _ _ _ h => h) (Or.inl ⟨by rfl, ?hyir20⟩) (by assumption) ?restir20
  case hyir20 => (intro w hSw; (try dsimp only at hSw); go_simp <;> with_reducible rfl)
  try simp only [Act.put, List.setIfInBounds_toArray, List.set_cons_zero, List.set_cons_succ]
  refine wpAnyH_take (i := 21) (oi := { dst := some 126, op := Op.indexAddr 23 (Operand.tmp 124) (Operand.tmp 125), type := 0, pos := "law.go:101", after := _, guard := some (17, false) }) (v := ?vir21) rfl (by kernel_rfl) (by kernel_rfl) (by kernel_rfl) (fun _ _ _ h => h) (Or.inl ⟨by rfl, ?hyir21⟩) (by assumption) ?restir21
  case hyir21 => (intro w hSw; (try dsimp only at hSw); go_simp <;> with_reducible rfl)
  try simp only [Act.put, List.setIfInBounds_toArray, List.set_cons_zero, List.set_cons_succ]
  refine wpAnyH_take (i := 22) (oi := { dst := some 127, op := Op.fieldAddr 37 (Operand.tmp 126) 0, type := 0, pos := "law.go:101", after := _, guard := some (17, false) }) (v := ?vir22) rfl (by kernel_rfl) (by kernel_rfl) (by kernel_rfl) (fun _ _ _ h => h) (Or.inl ⟨by rfl, ?hyir22⟩) (by assumption) ?restir22
  case hyir22 => (intro w hSw; (try dsimp only at hSw); go_simp <;> with_reducible rfl)
  try simp only [Act.put, List.setIfInBounds_toArray, List.set_cons_zero, List.set_cons_succ]
  refine wpAnyH_take (i := 23) (oi := { dst := some 128, op := Op.load 3 (Operand.tmp 127), type := 3, pos := "law.go:101", after := _, guard := some (17, false) }) (v := ?vir23) rfl (by kernel_rfl) (by kernel_rfl) (by kernel_rfl) (fun _ _ _ h => h) (Or.inl ⟨by rfl, ?hyir23⟩) (by assumption) ?restir23
  case hyir23 => (intro w hSw; (try dsimp only at hSw); go_simp <;> with_reducible rfl)
  try simp only [Act.put, List.setIfInBounds_toArray, List.set_cons_zero, List.set_cons_succ]
  refine wpAnyH_take (i := 24) (oi := { dst := some 129, op := Op.fieldAddr 25 (Operand.tmp 5) 1, type := 0, pos := "law.go:101", after := _, guard := some (17, false) }) (v := ?vir24) rfl (by kernel_rfl) (by kernel_rfl) (by kernel_rfl) (fun _ _ _ h => h) (Or.inl ⟨by rfl, ?hyir24⟩) (by assumption) ?restir24
  case hyir24 => (intro w hSw; (try dsimp only at hSw); go_simp <;> with_reducible rfl)
  try simp only [Act.put, List.setIfInBounds_toArray, List.set_cons_zero, List.set_cons_succ]
  refine wpAnyH_take (i := 25) (oi := { dst := some 130, op := Op.load 23 (Operand.tmp 129), type := 23, pos := "law.go:101", after := _, guard := some (17, false) }) (v := ?vir25) rfl (by kernel_rfl) (by kernel_rfl) (by kernel_rfl) (fun _ _ _ h => h) (Or.inl ⟨by rfl, ?hyir25⟩) (by assumption) ?restir25
  case hyir25 => (intro w hSw; (try dsimp only at hSw); go_simp <;> with_reducible rfl)
  try simp only [Act.put, List.setIfInBounds_toArray, List.set_cons_zero, List.set_cons_succ]
  refine wpAnyH_take (i := 26) (oi := { dst := some 131, op := Op.move (Operand.tmp 1), type := 3, pos := "law.go:101", after := _, guard := some (17, false) }) (v := ?vir26) rfl (by kernel_rfl) (by kernel_rfl) (by kernel_rfl) (fun _ _ _ h => h) (Or.inl ⟨by rfl, ?hyir26⟩) (by assumption) ?restir26
  case hyir26 => (intro w hSw; (try dsimp only at hSw); go_simp <;> with_reducible rfl)
  try simp only [Act.put, List.setIfInBounds_toArray, List.set_cons_zero, List.set_cons_succ]
  refine wpAnyH_take (i := 27) (oi := { dst := some 132, op := Op.indexAddr 23 (Operand.tmp 130) (Operand.tmp 131), type := 0, pos := "law.go:101", after := _, guard := some (17, false) }) (v := ?vir27) rfl (by kernel_rfl) (by kernel_rfl) (by kernel_rfl) (fun _ _ _ h => h) (Or.inl ⟨by rfl, ?hyir27⟩) (by assumption) ?restir27
  case hyir27 => (intro w hSw; (try dsimp only at hSw); go_simp <;> with_reducible rfl)
  try simp only [Act.put, List.setIfInBounds_toArray, List.set_cons_zero, List.set_cons_succ]
  refine wpAnyH_take (i := 28) (oi := { dst := some 133, op := Op.fieldAddr 37 (Operand.tmp 132) 0, type := 0, pos := "law.go:101", after := _, guard := some (17, false) }) (v := ?vir28) rfl (by kernel_rfl) (by kernel_rfl) (by kernel_rfl) (fun _ _ _ h => h) (Or.inl ⟨by rfl, ?hyir28⟩) (by assumption) ?restir28
  case hyir28 => (intro w hSw; (try dsimp only at hSw); go_simp <;> with_reducible rfl)
  try simp only [Act.put, List.setIfInBounds_toArray, List.set_cons_zero, List.set_cons_succ]
  refine wpAnyH_take (i := 29) (oi := { dst := some 134, op := Op.load 3 (Operand.tmp 133), type := 3, pos := "law.go:101", after := _, guard := some (17, false) }) (v := ?vir29) rfl (by kernel_rfl) (by kernel_rfl) (by kernel_rfl) (fun _ _ _ h => h) (Or.inl ⟨by rfl, ?hyir29⟩) (by assumption) ?restir29
  case hyir29 => (intro w hSw; (try dsimp only at hSw); go_simp <;> with_reducible rfl)
  try simp only [Act.put, List.setIfInBounds_toArray, List.set_cons_zero, List.set_cons_succ]
  refine wpAnyH_take (i := 30) (oi := { dst := some 135, op := Op.binOp BinOp.sub 3 (Operand.tmp 134) (Operand.const (Value.int IntKind.i64 1)) 3, type := 3, pos := "law.go:101", after := _, guard := some (17, false) }) (v := ?vir30) rfl (by kernel_rfl) (by kernel_rfl) (by kernel_rfl) (fun _ _ _ h => h) (Or.inl ⟨by rfl, ?hyir30⟩) (by assumption) ?restir30
  case hyir30 => (intro w hSw; (try dsimp only at hSw); go_simp <;> with_reducible rfl)
  try simp only [Act.put, List.setIfInBounds_toArray, List.set_cons_zero, List.set_cons_succ]
  refine wpAnyH_take (i := 31) (oi := { dst := some 136, op := Op.binOp BinOp.neq 3 (Operand.tmp 128) (Operand.tmp 135) 3, type := 4, pos := "law.go:101", after := _, guard := some (17, false) }) (v := ?vir31) rfl (by kernel_rfl) (by kernel_rfl) (by kernel_rfl) (fun _ _ _ h => h) (Or.inl ⟨by rfl, ?hyir31⟩) (by assumption) ?restir31
  case hyir31 => (intro w hSw; (try dsimp only at hSw); go_simp <;> with_reducible rfl)
  try simp only [Act.put, List.setIfInBounds_toArray, List.set_cons_zero, List.set_cons_succ]
  refine wpAnyH_take (i := 32) (oi := { dst := some 137, op := Op.pick (Operand.tmp 122) (Operand.const (Value.bool true)) (Operand.tmp 136), type := 4, pos := "law.go:101", after := _, guard := some (3, true) }) (v := ?vir32) rfl (by kernel_rfl) (by kernel_rfl) (by kernel_rfl) (fun _ _ _ h => h) (Or.inl ⟨by rfl, ?hyir32⟩) (by assumption) ?restir32
  case hyir32 => (intro w hSw; (try dsimp only at hSw); go_simp <;> with_reducible rfl)
  try simp only [Act.put, List.setIfInBounds_toArray, List.set_cons_zero, List.set_cons_succ]
  refine wpAnyH_take (i := 33) (oi := { dst := some 138, op := Op.pick (Operand.tmp 108) (Operand.tmp 137) (Operand.const (Value.bool false)), type := 4, pos := "law.go:101", after := _, guard := none }) (v := ?vir33) rfl (by kernel_rfl) (by kernel_rfl) (by kernel_rfl) (fun _ _ _ h => h) (Or.inl ⟨by rfl, ?hyir33⟩) (by assumption) ?restir33
  case hyir33 => (intro w hSw; (try dsimp only at hSw); go_simp <;> with_reducible rfl)
  try simp only [Act.put, List.setIfInBounds_toArray, List.set_cons_zero, List.set_cons_succ]
  refine wpAnyH_done (by kernel_rfl) ?_ _
  clear nw gw
  go_upto_region 15 with fail
  by_cases k1 : k < 0
  · skip
    have BW3 := (Below.refl w5.heap.size w5).drew.drew.drew
    refine wp_region_held_drew (S := fun w' => w'.cell? ⟨w.heap.size, 0, none⟩ = some (.int .i64 cap0) ∧ w'.cell? ⟨w.heap.size, 1, none⟩ = some (.slice (some ⟨b0, o0, none⟩) ps0.length c0) ∧ w'.cell? ⟨w3.heap.size, 0, none⟩ = some (.int .i64 cap0) ∧ w'.cell? ⟨w3.heap.size, 1, none⟩ = some (.slice (some ⟨bA, oA, none⟩) qsA.length dA)) (by kernel_rfl) ?_ (fun hHeldjr => ?_)
    · exact ⟨(BW3.cell (p := ⟨w.heap.size, 0, none⟩) sl).trans cs0, (BW3.cell (p := ⟨w.heap.size, 1, none⟩) sl).trans cs1, (BW3.cell (p := ⟨w3.heap.size, 0, none⟩) al).trans ca0, (BW3.cell (p := ⟨w3.heap.size, 1, none⟩) al).trans ca1⟩
    refine wpAnyH_take (i := 0) (oi := { dst := some 139, op := Op.move (Operand.tmp 4), type := 3, pos := "law.go:104", after := _, guard := none }) (v := ?vjr0) rfl (by kernel_rfl) (by kernel_rfl) (by kernel_rfl) (fun _ _ _ h => h) (Or.inl ⟨by rfl, ?hyjr0⟩) (by assumption) ?restjr0
    case hyjr0 => (intro w hSw; (try dsimp only at hSw); go_simp <;> with_reducible rfl)
    try simp only [Act.put, List.setIfInBounds_toArray, List.set_cons_zero, List.set_cons_succ]
    refine wpAnyH_take (i := 1) (oi := { dst := some 140, op := Op.binOp BinOp.lss 3 (Operand.tmp 139) (Operand.const (Value.int IntKind.i64 0)) 3, type := 4, pos := "law.go:104", after := _, guard := none }) (v := ?vjr1) rfl (by kernel_rfl) (by kernel_rfl) (by kernel_rfl) (fun _ _ _ h => h) (Or.inl ⟨by rfl, ?hyjr1⟩) (by assumption) ?restjr1
    case hyjr1 => (intro w hSw; (try dsimp only at hSw); go_simp <;> with_reducible rfl)
    try simp only [Act.put, List.setIfInBounds_toArray, List.set_cons_zero, List.set_cons_succ]
    refine wpAnyH_take (i := 2) (oi := { dst := some 141, op := Op.move (Operand.tmp 140), type := 4, pos := "law.go:104", after := _, guard := none }) (v := ?vjr2) rfl (by kernel_rfl) (by kernel_rfl) (by kernel_rfl) (fun _ _ _ h => h) (Or.inl ⟨by rfl, ?hyjr2⟩) (by assumption) ?restjr2
    case hyjr2 => (intro w hSw; (try dsimp only at hSw); go_simp <;> with_reducible rfl)
    try simp only [Act.put, List.setIfInBounds_toArray, List.set_cons_zero, List.set_cons_succ]
    refine wpAnyH_take (i := 3) (oi := { dst := some 142, op := Op.move (Operand.tmp 4), type := 3, pos := "law.go:104", after := _, guard := some (2, false) }) rfl (by kernel_rfl) (by kernel_rfl) (by kernel_rfl) (fun _ _ _ h => h) (Or.inr ⟨by rfl, rfl⟩) (by assumption) ?_
    try simp only [Act.put, List.setIfInBounds_toArray, List.set_cons_zero, List.set_cons_succ]
    refine wpAnyH_take (i := 4) (oi := { dst := some 143, op := Op.fieldAddr 25 (Operand.tmp 5) 1, type := 0, pos := "law.go:104", after := _, guard := some (2, false) }) rfl (by kernel_rfl) (by kernel_rfl) (by kernel_rfl) (fun _ _ _ h => h) (Or.inr ⟨by rfl, rfl⟩) (by assumption) ?_
    try simp only [Act.put, List.setIfInBounds_toArray, List.set_cons_zero, List.set_cons_succ]
    refine wpAnyH_take (i := 5) (oi := { dst := some 144, op := Op.load 23 (Operand.tmp 143), type := 23, pos := "law.go:104", after := _, guard := some (2, false) }) rfl (by kernel_rfl) (by kernel_rfl) (by kernel_rfl) (fun _ _ _ h => h) (Or.inr ⟨by rfl, rfl⟩) (by assumption) ?_
    try simp only [Act.put, List.setIfInBounds_toArray, List.set_cons_zero, List.set_cons_succ]
    refine wpAnyH_take (i := 6) (oi := { dst := some 145, op := Op.call { callee := Callee.builtin Builtin.len, args := #[Operand.tmp 144], argTypes := #[23] }, type := 3, pos := "law.go:104", after := _, guard := some (2, false) }) rfl (by kernel_rfl) (by kernel_rfl) (by kernel_rfl) (fun _ _ _ h => h) (Or.inr ⟨by rfl, rfl⟩) (by assumption) ?_
    try simp only [Act.put, List.setIfInBounds_toArray, List.set_cons_zero, List.set_cons_succ]
    refine wpAnyH_take (i := 7) (oi := { dst := some 146, op := Op.binOp BinOp.geq 3 (Operand.tmp 142) (Operand.tmp 145) 3, type := 4, pos := "law.go:104", after := _, guard := some (2, false) }) rfl (by kernel_rfl) (by kernel_rfl) (by kernel_rfl) (fun _ _ _ h => h) (Or.inr ⟨by rfl, rfl⟩) (by assumption) ?_
    try simp only [Act.put, List.setIfInBounds_toArray, List.set_cons_zero, List.set_cons_succ]
    refine wpAnyH_take (i := 8) (oi := { dst := some 147, op := Op.pick (Operand.tmp 141) (Operand.const (Value.bool true)) (Operand.tmp 146), type := 4, pos := "law.go:104", after := _, guard := none }) (v := ?vjr8) rfl (by kernel_rfl) (by kernel_rfl) (by kernel_rfl) (fun _ _ _ h => h) (Or.inl ⟨by rfl, ?hyjr8⟩) (by assumption) ?restjr8
    case hyjr8 => (intro w hSw; (try dsimp only at hSw); go_simp <;> with_reducible rfl)
    try simp only [Act.put, List.setIfInBounds_toArray, List.set_cons_zero, List.set_cons_succ]
    refine wpAnyH_take (i := 9) (oi := { dst := some 148, op := Op.move (Operand.tmp 147), type := 4, pos := "law.go:104", after := _, guard := none }) (v := ?vjr9) rfl (by kernel_rfl) (by kernel_rfl) (by kernel_rfl) (fun _ _ _ h => h) (Or.inl ⟨by rfl, ?hyjr9⟩) (by assumption) ?restjr9
    case hyjr9 => (intro w hSw; (try dsimp only at hSw); go_simp <;> with_reducible rfl)
    try simp only [Act.put, List.setIfInBounds_toArray, List.set_cons_zero, List.set_cons_succ]
    refine wpAnyH_take (i := 10) (oi := { dst := some 149, op := Op.move (Operand.tmp 4), type := 3, pos := "law.go:104", after := _, guard := some (9, false) }) rfl (by kernel_rfl) (by kernel_rfl) (by kernel_rfl) (fun _ _ _ h => h) (Or.inr ⟨by rfl, rfl⟩) (by assumption) ?_
    try simp only [Act.put, List.setIfInBounds_toArray, List.set_cons_zero, List.set_cons_succ]
    refine wpAnyH_take (i := 11) (oi := { dst := some 150, op := Op.move (Operand.tmp 1), type := 3, pos := "law.go:104", after := _, guard := some (9, false) }) rfl (by kernel_rfl) (by kernel_rfl) (by kernel_rfl) (fun _ _ _ h => h) (Or.inr ⟨by rfl, rfl⟩) (by assumption) ?_
    try simp only [Act.put, List.setIfInBounds_toArray, List.set_cons_zero, List.set_cons_succ]
    refine wpAnyH_take (i := 12) (oi := { dst := some 151, op := Op.binOp BinOp.eql 3 (Operand.tmp 149) (Operand.tmp 150) 3, type := 4, pos := "law.go:104", after := _, guard := some (9, false) }) rfl (by kernel_rfl) (by kernel_rfl) (by kernel_rfl) (fun _ _ _ h => h) (Or.inr ⟨by rfl, rfl⟩) (by assumption) ?_
    try simp only [Act.put, List.setIfInBounds_toArray, List.set_cons_zero, List.set_cons_succ]
    refine wpAnyH_take (i := 13) (oi := { dst := some 152, op := Op.pick (Operand.tmp 148) (Operand.const (Value.bool true)) (Operand.tmp 151), type := 4, pos := "law.go:104", after := _, guard := none }) (v := ?vjr13) rfl (by kernel_rfl) (by kernel_rfl) (by kernel_rfl) (fun _ _ _ h => h) (Or.inl ⟨by rfl, ?hyjr13⟩) (by assumption) ?restjr13
    case hyjr13 => (intro w hSw; (try dsimp only at hSw); go_simp <;> with_reducible rfl)
    try simp only [Act.put, List.setIfInBounds_toArray, List.set_cons_zero, List.set_cons_succ]
    refine wpAnyH_take (i := 14) (oi := { dst := some 153, op := Op.move (Operand.tmp 152), type := 4, pos := "law.go:104", after := _, guard := none }) (v := ?vjr14) rfl (by kernel_rfl) (by kernel_rfl) (by kernel_rfl) (fun _ _ _ h => h) (Or.inl ⟨by rfl, ?hyjr14⟩) (by assumption) ?restjr14
    case hyjr14 => (intro w hSw; (try dsimp only at hSw); go_simp <;> with_reducible rfl)
    try simp only [Act.put, List.setIfInBounds_toArray, List.set_cons_zero, List.set_cons_succ]
    refine wpAnyH_take (i := 15) (oi := { dst := some 154, op := Op.move (Operand.tmp 4), type := 3, pos := "law.go:104", after := _, guard := some (14, false) }) rfl (by kernel_rfl) (by kernel_rfl) (by kernel_rfl) (fun _ _ _ h => h) (Or.inr ⟨by rfl, rfl⟩) (by assumption) ?_
    try simp only [Act.put, List.setIfInBounds_toArray, List.set_cons_zero, List.set_cons_succ]
    refine wpAnyH_take (i := 16) (oi := { dst := some 155, op := Op.move (Operand.tmp 13), type := 3, pos := "law.go:104", after := _, guard := some (14, false) }) rfl (by kernel_rfl) (by kernel_rfl) (by kernel_rfl) (fun _ _ _ h => h) (Or.inr ⟨by rfl, rfl⟩) (by assumption) ?_
    try simp only [Act.put, List.setIfInBounds_toArray, List.set_cons_zero, List.set_cons_succ]
    refine wpAnyH_take (i := 17) (oi := { dst := some 156, op := Op.binOp BinOp.eql 3 (Operand.tmp 154) (Operand.tmp 155) 3, type := 4, pos := "law.go:104", after := _, guard := some (14, false) }) rfl (by kernel_rfl) (by kernel_rfl) (by kernel_rfl) (fun _ _ _ h => h) (Or.inr ⟨by rfl, rfl⟩) (by assumption) ?_
    try simp only [Act.put, List.setIfInBounds_toArray, List.set_cons_zero, List.set_cons_succ]
    refine wpAnyH_take (i := 18) (oi := { dst := some 157, op := Op.pick (Operand.tmp 153) (Operand.const (Value.bool true)) (Operand.tmp 156), type := 4, pos := "law.go:104", after := _, guard := none }) (v := ?vjr18) rfl (by kernel_rfl) (by kernel_rfl) (by kernel_rfl) (fun _ _ _ h => h) (Or.inl ⟨by rfl, ?hyjr18⟩) (by assumption) ?restjr18
    case hyjr18 => (intro w hSw; (try dsimp only at hSw); go_simp <;> with_reducible rfl)
    try simp only [Act.put, List.setIfInBounds_toArray, List.set_cons_zero, List.set_cons_succ]
    refine wpAnyH_take (i := 19) (oi := { dst := some 158, op := Op.move (Operand.tmp 157), type := 4, pos := "law.go:104", after := _, guard := none }) (v := ?vjr19) rfl (by kernel_rfl) (by kernel_rfl) (by kernel_rfl) (fun _ _ _ h => h) (Or.inl ⟨by rfl, ?hyjr19⟩) (by assumption) ?restjr19
    case hyjr19 => (intro w hSw; (try dsimp only at hSw); go_simp <;> with_reducible rfl)
    try simp only [Act.put, List.setIfInBounds_toArray, List.set_cons_zero, List.set_cons_succ]
    refine wpAnyH_take (i := 20) (oi := { dst := some 159, op := Op.fieldAddr 25 (Operand.tmp 12) 1, type := 0, pos := "law.go:104", after := _, guard := some (19, false) }) rfl (by kernel_rfl) (by kernel_rfl) (by kernel_rfl) (fun _ _ _ h => h) (Or.inr ⟨by rfl, rfl⟩) (by assumption) ?_
    try simp only [Act.put, List.setIfInBounds_toArray, List.set_cons_zero, List.set_cons_succ]
    refine wpAnyH_take (i := 21) (oi := { dst := some 160, op := Op.load 23 (Operand.tmp 159), type := 23, pos := "law.go:104", after := _, guard := some (19, false) }) rfl (by kernel_rfl) (by kernel_rfl) (by kernel_rfl) (fun _ _ _ h => h) (Or.inr ⟨by rfl, rfl⟩) (by assumption) ?_
    try simp only [Act.put, List.setIfInBounds_toArray, List.set_cons_zero, List.set_cons_succ]
    refine wpAnyH_take (i := 22) (oi := { dst := some 161, op := Op.move (Operand.tmp 4), type := 3, pos := "law.go:104", after := _, guard := some (19, false) }) rfl (by kernel_rfl) (by kernel_rfl) (by kernel_rfl) (fun _ _ _ h => h) (Or.inr ⟨by rfl, rfl⟩) (by assumption) ?_
    try simp only [Act.put, List.setIfInBounds_toArray, List.set_cons_zero, List.set_cons_succ]
    refine wpAnyH_take (i := 23) (oi := { dst := some 162, op := Op.indexAddr 23 (Operand.tmp 160) (Operand.tmp 161), type := 0, pos := "law.go:104", after := _, guard := some (19, false) }) rfl (by kernel_rfl) (by kernel_rfl) (by kernel_rfl) (fun _ _ _ h => h) (Or.inr ⟨by rfl, rfl⟩) (by assumption) ?_
    try simp only [Act.put, List.setIfInBounds_toArray, List.set_cons_zero, List.set_cons_succ]
    refine wpAnyH_take (i := 24) (oi := { dst := some 163, op := Op.load 37 (Operand.tmp 162), type := 37, pos := "law.go:104", after := _, guard := some (19, false) }) rfl (by kernel_rfl) (by kernel_rfl) (by kernel_rfl) (fun _ _ _ h => h) (Or.inr ⟨by rfl, rfl⟩) (by assumption) ?_
    try simp only [Act.put, List.setIfInBounds_toArray, List.set_cons_zero, List.set_cons_succ]
    refine wpAnyH_take (i := 25) (oi := { dst := some 164, op := Op.fieldAddr 25 (Operand.tmp 5) 1, type := 0, pos := "law.go:104", after := _, guard := some (19, false) }) rfl (by kernel_rfl) (by kernel_rfl) (by kernel_rfl) (fun _ _ _ h => h) (Or.inr ⟨by rfl, rfl⟩) (by assumption) ?_
    try simp only [Act.put, List.setIfInBounds_toArray, List.set_cons_zero, List.set_cons_succ]
    refine wpAnyH_take (i := 26) (oi := { dst := some 165, op := Op.load 23 (Operand.tmp 164), type := 23, pos := "law.go:104", after := _, guard := some (19, false) }) rfl (by kernel_rfl) (by kernel_rfl) (by kernel_rfl) (fun _ _ _ h => h) (Or.inr ⟨by rfl, rfl⟩) (by assumption) ?_
    try simp only [Act.put, List.setIfInBounds_toArray, List.set_cons_zero, List.set_cons_succ]
    refine wpAnyH_take (i := 27) (oi := { dst := some 166, op := Op.move (Operand.tmp 4), type := 3, pos := "law.go:104", after := _, guard := some (19, false) }) rfl (by kernel_rfl) (by kernel_rfl) (by kernel_rfl) (fun _ _ _ h => h) (Or.inr ⟨by rfl, rfl⟩) (by assumption) ?_
    try simp only [Act.put, List.setIfInBounds_toArray, List.set_cons_zero, List.set_cons_succ]
    refine wpAnyH_take (i := 28) (oi := { dst := some 167, op := Op.indexAddr 23 (Operand.tmp 165) (Operand.tmp 166), type := 0, pos := "law.go:104", after := _, guard := some (19, false) }) rfl (by kernel_rfl) (by kernel_rfl) (by kernel_rfl) (fun _ _ _ h => h) (Or.inr ⟨by rfl, rfl⟩) (by assumption) ?_
    try simp only [Act.put, List.setIfInBounds_toArray, List.set_cons_zero, List.set_cons_succ]
    refine wpAnyH_take (i := 29) (oi := { dst := some 168, op := Op.load 37 (Operand.tmp 167), type := 37, pos := "law.go:104", after := _, guard := some (19, false) }) rfl (by kernel_rfl) (by kernel_rfl) (by kernel_rfl) (fun _ _ _ h => h) (Or.inr ⟨by rfl, rfl⟩) (by assumption) ?_
    try simp only [Act.put, List.setIfInBounds_toArray, List.set_cons_zero, List.set_cons_succ]
    refine wpAnyH_take (i := 30) (oi := { dst := some 169, op := Op.binOp BinOp.eql 37 (Operand.tmp 163) (Operand.tmp 168) 37, type := 4, pos := "law.go:104", after := _, guard := some (19, false) }) rfl (by kernel_rfl) (by kernel_rfl) (by kernel_rfl) (fun _ _ _ h => h) (Or.inr ⟨by rfl, rfl⟩) (by assumption) ?_
    try simp only [Act.put, List.setIfInBounds_toArray, List.set_cons_zero, List.set_cons_succ]
    refine wpAnyH_take (i := 31) (oi := { dst := some 170, op := Op.pick (Operand.tmp 158) (Operand.const (Value.bool true)) (Operand.tmp 169), type := 4, pos := "law.go:104", after := _, guard := none }) (v := ?vjr31) rfl (by kernel_rfl) (by kernel_rfl) (by kernel_rfl) (fun _ _ _ h => h) (Or.inl ⟨by rfl, ?hyjr31⟩) (by assumption) ?restjr31
    case hyjr31 => (intro w hSw; (try dsimp only at hSw); go_simp <;> with_reducible rfl)
    try simp only [Act.put, List.setIfInBounds_toArray, List.set_cons_zero, List.set_cons_succ]
    refine wpAnyH_ready (rs := [32]) (by kernel_rfl) (by simp) ?_
    refine AllReadyH.cons (o := { dst := some 10, op := Op.assign (Operand.tmp 170), type := 4, pos := "law.go:104", after := _, guard := none }) rfl (fun K hK => ?_) AllReadyH.nil
    go_simp
    skip
    refine hK.out _ _ ?_ (fun hHeldjr32 => ?_)
    · exact ⟨(BW3.cell (p := ⟨w.heap.size, 0, none⟩) sl).trans cs0, (BW3.cell (p := ⟨w.heap.size, 1, none⟩) sl).trans cs1, (BW3.cell (p := ⟨w3.heap.size, 0, none⟩) al).trans ca0, (BW3.cell (p := ⟨w3.heap.size, 1, none⟩) al).trans ca1⟩
    clear hK K hHeldjr
    try simp only [Act.put, List.setIfInBounds_toArray, List.set_cons_zero, List.set_cons_succ]
    refine wpAnyH_done (by kernel_rfl) ?_ _
    go_wp2
    go_ret
    exact ⟨rfl, hY5.trans (BW3.mono hY5.size)⟩
  by_cases k2 : (ps0.length : Int) ≤ k
  · skip
    have BW3 := (Below.refl w5.heap.size w5).drew.drew.drew
    refine wp_region_held_drew (S := fun w' => w'.cell? ⟨w.heap.size, 0, none⟩ = some (.int .i64 cap0) ∧ w'.cell? ⟨w.heap.size, 1, none⟩ = some (.slice (some ⟨b0, o0, none⟩) ps0.length c0) ∧ w'.cell? ⟨w3.heap.size, 0, none⟩ = some (.int .i64 cap0) ∧ w'.cell? ⟨w3.heap.size, 1, none⟩ = some (.slice (some ⟨bA, oA, none⟩) qsA.length dA)) (by kernel_rfl) ?_ (fun hHeldkr => ?_)
    · exact ⟨(BW3.cell (p := ⟨w.heap.size, 0, none⟩) sl).trans cs0, (BW3.cell (p := ⟨w.heap.size, 1, none⟩) sl).trans cs1, (BW3.cell (p := ⟨w3.heap.size, 0, none⟩) al).trans ca0, (BW3.cell (p := ⟨w3.heap.size, 1, none⟩) al).trans ca1⟩
    refine wpAnyH_take (i := 0) (oi := { dst := some 139, op := Op.move (Operand.tmp 4), type := 3, pos := "law.go:104", after := _, guard := none }) (v := ?vkr0) rfl (by kernel_rfl) (by kernel_rfl) (by kernel_rfl) (fun _ _ _ h => h) (Or.inl ⟨by rfl, ?hykr0⟩) (by assumption) ?restkr0
    case hykr0 => (intro w hSw; (try dsimp only at hSw); go_simp <;> with_reducible rfl)
    try simp only [Act.put, List.setIfInBounds_toArray, List.set_cons_zero, List.set_cons_succ]
    refine wpAnyH_take (i := 1) (oi := { dst := some 140, op := Op.binOp BinOp.lss 3 (Operand.tmp 139) (Operand.const (Value.int IntKind.i64 0)) 3, type := 4, pos := "law.go:104", after := _, guard := none }) (v := .bool false) rfl (by kernel_rfl) (by kernel_rfl) (by kernel_rfl) (fun _ _ _ h => h) (Or.inl ⟨by rfl, ?hykr1⟩) (by assumption) ?restkr1
    case hykr1 => (intro w hSw; (try dsimp only at hSw); go_simp <;> first | done | with_reducible rfl | omega | (simp; done) | (simp; omega) | (simp [*]; done) | (simp [*]; omega) | exact decide_eq_false (by omega) | exact decide_eq_true (by omega))
    try simp only [Act.put, List.setIfInBounds_toArray, List.set_cons_zero, List.set_cons_succ]
    refine wpAnyH_take (i := 2) (oi := { dst := some 141, op := Op.move (Operand.tmp 140), type := 4, pos := "law.go:104", after := _, guard := none }) (v := ?vkr2) rfl (by kernel_rfl) (by kernel_rfl) (by kernel_rfl) (fun _ _ _ h => h) (Or.inl ⟨by rfl, ?hykr2⟩) (by assumption) ?restkr2
    case hykr2 => (intro w hSw; (try dsimp only at hSw); go_simp <;> with_reducible rfl)
    try simp only [Act.put, List.setIfInBounds_toArray, List.set_cons_zero, List.set_cons_succ]
    refine wpAnyH_take (i := 3) (oi := { dst := some 142, op := Op.move (Operand.tmp 4), type := 3, pos := "law.go:104", after := _, guard := some (2, false) }) (v := ?vkr3) rfl (by kernel_rfl) (by kernel_rfl) (by kernel_rfl) (fun _ _ _ h => h) (Or.inl ⟨by rfl, ?hykr3⟩) (by assumption) ?restkr3
    case hykr3 => (intro w hSw; (try dsimp only at hSw); go_simp <;> with_reducible rfl)
    try simp only [Act.put, List.setIfInBounds_toArray, List.set_cons_zero, List.set_cons_succ]
    refine wpAnyH_take (i := 4) (oi := { dst := some 143, op := Op.fieldAddr 25 (Operand.tmp 5) 1, type := 0, pos := "law.go:104", after := _, guard := some (2, false) }) (v := ?vkr4) rfl (by kernel_rfl) (by kernel_rfl) (by kernel_rfl) (fun _ _ _ h => h) (Or.inl ⟨by rfl, ?hykr4⟩) (by assumption) ?restkr4
    case hykr4 => (intro w hSw; (try dsimp only at hSw); go_simp <;> with_reducible rfl)
    try simp only [Act.put, List.setIfInBounds_toArray, List.set_cons_zero, List.set_cons_succ]
    refine wpAnyH_take (i := 5) (oi := { dst := some 144, op := Op.load 23 (Operand.tmp 143), type := 23, pos := "law.go:104", after := _, guard := some (2, false) }) (v := ?vkr5) rfl (by kernel_rfl) (by kernel_rfl) (by kernel_rfl) (fun _ _ _ h => h) (Or.inl ⟨by rfl, ?hykr5⟩) (by assumption) ?restkr5
    case hykr5 => (intro w hSw; (try dsimp only at hSw); go_simp <;> with_reducible rfl)
    try simp only [Act.put, List.setIfInBounds_toArray, List.set_cons_zero, List.set_cons_succ]
    refine wpAnyH_take (i := 6) (oi := { dst := some 145, op := Op.call { callee := Callee.builtin Builtin.len, args := #[Operand.tmp 144], argTypes := #[23] }, type := 3, pos := "law.go:104", after := _, guard := some (2, false) }) (v := ?vkr6) rfl (by kernel_rfl) (by kernel_rfl) (by kernel_rfl) (fun _ _ _ h => h) (Or.inl ⟨by rfl, ?hykr6⟩) (by assumption) ?restkr6
    case hykr6 => (intro w hSw; (try dsimp only at hSw); go_simp <;> with_reducible rfl)
    try simp only [Act.put, List.setIfInBounds_toArray, List.set_cons_zero, List.set_cons_succ]
    refine wpAnyH_take (i := 7) (oi := { dst := some 146, op := Op.binOp BinOp.geq 3 (Operand.tmp 142) (Operand.tmp 145) 3, type := 4, pos := "law.go:104", after := _, guard := some (2, false) }) (v := .bool true) rfl (by kernel_rfl) (by kernel_rfl) (by kernel_rfl) (fun _ _ _ h => h) (Or.inl ⟨by rfl, ?hykr7⟩) (by assumption) ?restkr7
    case hykr7 => (intro w hSw; (try dsimp only at hSw); go_simp <;> first | done | with_reducible rfl | omega | (simp; done) | (simp; omega) | (simp [*]; done) | (simp [*]; omega) | exact decide_eq_false (by omega) | exact decide_eq_true (by omega))
    try simp only [Act.put, List.setIfInBounds_toArray, List.set_cons_zero, List.set_cons_succ]
    refine wpAnyH_take (i := 8) (oi := { dst := some 147, op := Op.pick (Operand.tmp 141) (Operand.const (Value.bool true)) (Operand.tmp 146), type := 4, pos := "law.go:104", after := _, guard := none }) (v := ?vkr8) rfl (by kernel_rfl) (by kernel_rfl) (by kernel_rfl) (fun _ _ _ h => h) (Or.inl ⟨by rfl, ?hykr8⟩) (by assumption) ?restkr8
    case hykr8 => (intro w hSw; (try dsimp only at hSw); go_simp <;> with_reducible rfl)
    try simp only [Act.put, List.setIfInBounds_toArray, List.set_cons_zero, List.set_cons_succ]
    refine wpAnyH_take (i := 9) (oi := { dst := some 148, op := Op.move (Operand.tmp 147), type := 4, pos := "law.go:104", after := _, guard := none }) (v := ?vkr9) rfl (by kernel_rfl) (by kernel_rfl) (by kernel_rfl) (fun _ _ _ h => h) (Or.inl ⟨by rfl, ?hykr9⟩) (by assumption) ?restkr9
    case hykr9 => (intro w hSw; (try dsimp only at hSw); go_simp <;> with_reducible rfl)
    try simp only [Act.put, List.setIfInBounds_toArray, List.set_cons_zero, List.set_cons_succ]
    refine wpAnyH_take (i := 10) (oi := { dst := some 149, op := Op.move (Operand.tmp 4), type := 3, pos := "law.go:104", after := _, guard := some (9, false) }) rfl (by kernel_rfl) (by kernel_rfl) (by kernel_rfl) (fun _ _ _ h => h) (Or.inr ⟨by rfl, rfl⟩) (by assumption) ?_
    try simp only [Act.put, List.setIfInBounds_toArray, List.set_cons_zero, List.set_cons_succ]
    refine wpAnyH_take (i := 11) (oi := { dst := some 150, op := Op.move (Operand.tmp 1), type := 3, pos := "law.go:104", after := _, guard := some (9, false) }) rfl (by kernel_rfl) (by kernel_rfl) (by kernel_rfl) (fun _ _ _ h => h) (Or.inr ⟨by rfl, rfl⟩) (by assumption) ?_
    try simp only [Act.put, List.setIfInBounds_toArray, List.set_cons_zero, List.set_cons_succ]
    refine wpAnyH_take (i := 12) (oi := { dst := some 151, op := Op.binOp BinOp.eql 3 (Operand.tmp 149) (Operand.tmp 150) 3, type := 4, pos := "law.go:104", after := _, guard := some (9, false) }) rfl (by kernel_rfl) (by kernel_rfl) (by kernel_rfl) (fun _ _ _ h => h) (Or.inr ⟨by rfl, rfl⟩) (by assumption) ?_
    try simp only [Act.put, List.setIfInBounds_toArray, List.set_cons_zero, List.set_cons_succ]
    refine wpAnyH_take (i := 13) (oi := { dst := some 152, op := Op.pick (Operand.tmp 148) (Operand.const (Value.bool true)) (Operand.tmp 151), type := 4, pos := "law.go:104", after := _, guard := none }) (v := ?vkr13) rfl (by kernel_rfl) (by kernel_rfl) (by kernel_rfl) (fun _ _ _ h => h) (Or.inl ⟨by rfl, ?hykr13⟩) (by assumption) ?restkr13
    case hykr13 => (intro w hSw; (try dsimp only at hSw); go_simp <;> with_reducible rfl)
    try simp only [Act.put, List.setIfInBounds_toArray, List.set_cons_zero, List.set_cons_succ]
    refine wpAnyH_take (i := 14) (oi := { dst := some 153, op := Op.move (Operand.tmp 152), type := 4, pos := "law.go:104", after := _, guard := none }) (v := ?vkr14) rfl (by kernel_rfl) (by kernel_rfl) (by kernel_rfl) (fun _ _ _ h => h) (Or.inl ⟨by rfl, ?hykr14⟩) (by assumption) ?restkr14
    case hykr14 => (intro w hSw; (try dsimp only at hSw); go_simp <;> with_reducible rfl)
    try simp only [Act.put, List.setIfInBounds_toArray, List.set_cons_zero, List.set_cons_succ]
    refine wpAnyH_take (i := 15) (oi := { dst := some 154, op := Op.move (Operand.tmp 4), type := 3, pos := "law.go:104", after := _, guard := some (14, false) }) rfl (by kernel_rfl) (by kernel_rfl) (by kernel_rfl) (fun _ _ _ h => h) (Or.inr ⟨by rfl, rfl⟩) (by assumption) ?_
    try simp only [Act.put, List.setIfInBounds_toArray, List.set_cons_zero, List.set_cons_succ]
    refine wpAnyH_take (i := 16) (oi := { dst := some 155, op := Op.move (Operand.tmp 13), type := 3, pos := "law.go:104", after := _, guard := some (14, false) }) rfl (by kernel_rfl) (by kernel_rfl) (by kernel_rfl) (fun _ _ _ h => h) (Or.inr ⟨by rfl, rfl⟩) (by assumption) ?_
    try simp only [Act.put, List.setIfInBounds_toArray, List.set_cons_zero, List.set_cons_succ]
    refine wpAnyH_take (i := 17) (oi := { dst := some 156, op := Op.binOp BinOp.eql 3 (Operand.tmp 154) (Operand.tmp 155) 3, type := 4, pos := "law.go:104", after := _, guard := some (14, false) }) rfl (by kernel_rfl) (by kernel_rfl) (by kernel_rfl) (fun _ _ _ h => h) (Or.inr ⟨by rfl, rfl⟩) (by assumption) ?_
    try simp only [Act.put, List.setIfInBounds_toArray, List.set_cons_zero, List.set_cons_succ]
    refine wpAnyH_take (i := 18) (oi := { dst := some 157, op := Op.pick (Operand.tmp 153) (Operand.const (Value.bool true)) (Operand.tmp 156), type := 4, pos := "law.go:104", after := _, guard := none }) (v := ?vkr18) rfl (by kernel_rfl) (by kernel_rfl) (by kernel_rfl) (fun _ _ _ h => h) (Or.inl ⟨by rfl, ?hykr18⟩) (by assumption) ?restkr18
    case hykr18 => (intro w hSw; (try dsimp only at hSw); go_simp <;> with_reducible rfl)
    try simp only [Act.put, List.setIfInBounds_toArray, List.set_cons_zero, List.set_cons_succ]
    refine wpAnyH_take (i := 19) (oi := { dst := some 158, op := Op.move (Operand.tmp 157), type := 4, pos := "law.go:104", after := _, guard := none }) (v := ?vkr19) rfl (by kernel_rfl) (by kernel_rfl) (by kernel_rfl) (fun _ _ _ h => h) (Or.inl ⟨by rfl, ?hykr19⟩) (by assumption) ?restkr19
    case hykr19 => (intro w hSw; (try dsimp only at hSw); go_simp <;> with_reducible rfl)
    try simp only [Act.put, List.setIfInBounds_toArray, List.set_cons_zero, List.set_cons_succ]
    refine wpAnyH_take (i := 20) (oi := { dst := some 159, op := Op.fieldAddr 25 (Operand.tmp 12) 1, type := 0, pos := "law.go:104", after := _, guard := some (19, false) }) rfl (by kernel_rfl) (by kernel_rfl) (by kernel_rfl) (fun _ _ _ h => h) (Or.inr ⟨by rfl, rfl⟩) (by assumption) ?_
    try simp only [Act.put, List.setIfInBounds_toArray, List.set_cons_zero, List.set_cons_succ]
    refine wpAnyH_take (i := 21) (oi := { dst := some 160, op := Op.load 23 (Operand.tmp 159), type := 23, pos := "law.go:104", after := _, guard := some (19, false) }) rfl (by kernel_rfl) (by kernel_rfl) (by kernel_rfl) (fun _ _ _ h => h) (Or.inr ⟨by rfl, rfl⟩) (by assumption) ?_
    try simp only [Act.put, List.setIfInBounds_toArray, List.set_cons_zero, List.set_cons_succ]
    refine wpAnyH_take (i := 22) (oi := { dst := some 161, op := Op.move (Operand.tmp 4), type := 3, pos := "law.go:104", after := _, guard := some (19, false) }) rfl (by kernel_rfl) (by kernel_rfl) (by kernel_rfl) (fun _ _ _ h => h) (Or.inr ⟨by rfl, rfl⟩) (by assumption) ?_
    try simp only [Act.put, List.setIfInBounds_toArray, List.set_cons_zero, List.set_cons_succ]
    refine wpAnyH_take (i := 23) (oi := { dst := some 162, op := Op.indexAddr 23 (Operand.tmp 160) (Operand.tmp 161), type := 0, pos := "law.go:104", after := _, guard := some (19, false) }) rfl (by kernel_rfl) (by kernel_rfl) (by kernel_rfl) (fun _ _ _ h => h) (Or.inr ⟨by rfl, rfl⟩) (by assumption) ?_
    try simp only [Act.put, List.setIfInBounds_toArray, List.set_cons_zero, List.set_cons_succ]
    refine wpAnyH_take (i := 24) (oi := { dst := some 163, op := Op.load 37 (Operand.tmp 162), type := 37, pos := "law.go:104", after := _, guard := some (19, false) }) rfl (by kernel_rfl) (by kernel_rfl) (by kernel_rfl) (fun _ _ _ h => h) (Or.inr ⟨by rfl, rfl⟩) (by assumption) ?_
    try simp only [Act.put, List.setIfInBounds_toArray, List.set_cons_zero, List.set_cons_succ]
    refine wpAnyH_take (i := 25) (oi := { dst := some 164, op := Op.fieldAddr 25 (Operand.tmp 5) 1, type := 0, pos := "law.go:104", after := _, guard := some (19, false) }) rfl (by kernel_rfl) (by kernel_rfl) (by kernel_rfl) (fun _ _ _ h => h) (Or.inr ⟨by rfl, rfl⟩) (by assumption) ?_
    try simp only [Act.put, List.setIfInBounds_toArray, List.set_cons_zero, List.set_cons_succ]
    refine wpAnyH_take (i := 26) (oi := { dst := some 165, op := Op.load 23 (Operand.tmp 164), type := 23, pos := "law.go:104", after := _, guard := some (19, false) }) rfl (by kernel_rfl) (by kernel_rfl) (by kernel_rfl) (fun _ _ _ h => h) (Or.inr ⟨by rfl, rfl⟩) (by assumption) ?_
    try simp only [Act.put, List.setIfInBounds_toArray, List.set_cons_zero, List.set_cons_succ]
    refine wpAnyH_take (i := 27) (oi := { dst := some 166, op := Op.move (Operand.tmp 4), type := 3, pos := "law.go:104", after := _, guard := some (19, false) }) rfl (by kernel_rfl) (by kernel_rfl) (by kernel_rfl) (fun _ _ _ h => h) (Or.inr ⟨by rfl, rfl⟩) (by assumption) ?_
    try simp only [Act.put, List.setIfInBounds_toArray, List.set_cons_zero, List.set_cons_succ]
    refine wpAnyH_take (i := 28) (oi := { dst := some 167, op := Op.indexAddr 23 (Operand.tmp 165) (Operand.tmp 166), type := 0, pos := "law.go:104", after := _, guard := some (19, false) }) rfl (by kernel_rfl) (by kernel_rfl) (by kernel_rfl) (fun _ _ _ h => h) (Or.inr ⟨by rfl, rfl⟩) (by assumption) ?_
    try simp only [Act.put, List.setIfInBounds_toArray, List.set_cons_zero, List.set_cons_succ]
    refine wpAnyH_take (i := 29) (oi := { dst := some 168, op := Op.load 37 (Operand.tmp 167), type := 37, pos := "law.go:104", after := _, guard := some (19, false) }) rfl (by kernel_rfl) (by kernel_rfl) (by kernel_rfl) (fun _ _ _ h => h) (Or.inr ⟨by rfl, rfl⟩) (by assumption) ?_
    try simp only [Act.put, List.setIfInBounds_toArray, List.set_cons_zero, List.set_cons_succ]
    refine wpAnyH_take (i := 30) (oi := { dst := some 169, op := Op.binOp BinOp.eql 37 (Operand.tmp 163) (Operand.tmp 168) 37, type := 4, pos := "law.go:104", after := _, guard := some (19, false) }) rfl (by kernel_rfl) (by kernel_rfl) (by kernel_rfl) (fun _ _ _ h => h) (Or.inr ⟨by rfl, rfl⟩) (by assumption) ?_
    try simp only [Act.put, List.setIfInBounds_toArray, List.set_cons_zero, List.set_cons_succ]
    refine wpAnyH_take (i := 31) (oi := { dst := some 170, op := Op.pick (Operand.tmp 158) (Operand.const (Value.bool true)) (Operand.tmp 169), type := 4, pos := "law.go:104", after := _, guard := none }) (v := ?vkr31) rfl (by kernel_rfl) (by kernel_rfl) (by kernel_rfl) (fun _ _ _ h => h) (Or.inl ⟨by rfl, ?hykr31⟩) (by assumption) ?restkr31
    case hykr31 => (intro w hSw; (try dsimp only at hSw); go_simp <;> with_reducible rfl)
    try simp only [Act.put, List.setIfInBounds_toArray, List.set_cons_zero, List.set_cons_succ]
    refine wpAnyH_ready (rs := [32]) (by kernel_rfl) (by simp) ?_
    refine AllReadyH.cons (o := { dst := some 10, op := Op.assign (Operand.tmp 170), type := 4, pos := "law.go:104", after := _, guard := none }) rfl (fun K hK => ?_) AllReadyH.nil
    go_simp
    skip
    refine hK.out _ _ ?_ (fun hHeldkr32 => ?_)
    · exact ⟨(BW3.cell (p := ⟨w.heap.size, 0, none⟩) sl).trans cs0, (BW3.cell (p := ⟨w.heap.size, 1, none⟩) sl).trans cs1, (BW3.cell (p := ⟨w3.heap.size, 0, none⟩) al).trans ca0, (BW3.cell (p := ⟨w3.heap.size, 1, none⟩) al).trans ca1⟩
    clear hK K hHeldkr
    try simp only [Act.put, List.setIfInBounds_toArray, List.set_cons_zero, List.set_cons_succ]
    refine wpAnyH_done (by kernel_rfl) ?_ _
    go_wp2
    go_ret
    exact ⟨rfl, hY5.trans (BW3.mono hY5.size)⟩
  obtain ⟨j, rfl⟩ := Int.eq_ofNat_of_zero_le (Int.not_lt.1 k1)
  have hj : j < ps0.length := by omega
  have hj0 : (0 : Int) ≤ (j : Int) := by omega
  have hj1 : (j : Int) < (ps0.length : Int) := by omega
  by_cases k3 : (j : Int) = (n : Int)
  · have k3' : ((j : Int) == (n : Int)) = true := by simpa using k3
    have BW3 := (Below.refl w5.heap.size w5).drew.drew.drew
    refine wp_region_held_drew (S := fun w' => w'.cell? ⟨w.heap.size, 0, none⟩ = some (.int .i64 cap0) ∧ w'.cell? ⟨w.heap.size, 1, none⟩ = some (.slice (some ⟨b0, o0, none⟩) ps0.length c0) ∧ w'.cell? ⟨w3.heap.size, 0, none⟩ = some (.int .i64 cap0) ∧ w'.cell? ⟨w3.heap.size, 1, none⟩ = some (.slice (some ⟨bA, oA, none⟩) qsA.length dA)) (by kernel_rfl) ?_ (fun hHeldlr => ?_)
    · exact ⟨(BW3.cell (p := ⟨w.heap.size, 0, none⟩) sl).trans cs0, (BW3.cell (p := ⟨w.heap.size, 1, none⟩) sl).trans cs1, (BW3.cell (p := ⟨w3.heap.size, 0, none⟩) al).trans ca0, (BW3.cell (p := ⟨w3.heap.size, 1, none⟩) al).trans ca1⟩
    refine wpAnyH_take (i := 0) (oi := { dst := some 139, op := Op.move (Operand.tmp 4), type := 3, pos := "law.go:104", after := _, guard := none }) (v := ?vlr0) rfl (by kernel_rfl) (by kernel_rfl) (by kernel_rfl) (fun _ _ _ h => h) (Or.inl ⟨by rfl, ?hylr0⟩) (by assumption) ?restlr0
    case hylr0 => (intro w hSw; (try dsimp only at hSw); go_simp <;> with_reducible rfl)
    try simp only [Act.put, List.setIfInBounds_toArray, List.set_cons_zero, List.set_cons_succ]
    refine wpAnyH_take (i := 1) (oi := { dst := some 140, op := Op.binOp BinOp.lss 3 (Operand.tmp 139) (Operand.const (Value.int IntKind.i64 0)) 3, type := 4, pos := "law.go:104", after := _, guard := none }) (v := .bool false) rfl (by kernel_rfl) (by kernel_rfl) (by kernel_rfl) (fun _ _ _ h => h) (Or.inl ⟨by rfl, ?hylr1⟩) (by assumption) ?restlr1
    case hylr1 => (intro w hSw; (try dsimp only at hSw); go_simp <;> first | done | with_reducible rfl | omega | (simp; done) | (simp; omega) | (simp [*]; done) | (simp [*]; omega) | exact decide_eq_false (by omega) | exact decide_eq_true (by omega))
    try simp only [Act.put, List.setIfInBounds_toArray, List.set_cons_zero, List.set_cons_succ]
    refine wpAnyH_take (i := 2) (oi := { dst := some 141, op := Op.move (Operand.tmp 140), type := 4, pos := "law.go:104", after := _, guard := none }) (v := ?vlr2) rfl (by kernel_rfl) (by kernel_rfl) (by kernel_rfl) (fun _ _ _ h => h) (Or.inl ⟨by rfl, ?hylr2⟩) (by assumption) ?restlr2
    case hylr2 => (intro w hSw; (try dsimp only at hSw); go_simp <;> with_reducible rfl)
    try simp only [Act.put, List.setIfInBounds_toArray, List.set_cons_zero, List.set_cons_succ]
    refine wpAnyH_take (i := 3) (oi := { dst := some 142, op := Op.move (Operand.tmp 4), type := 3, pos := "law.go:104", after := _, guard := some (2, false) }) (v := ?vlr3) rfl (by kernel_rfl) (by kernel_rfl) (by kernel_rfl) (fun _ _ _ h => h) (Or.inl ⟨by rfl, ?hylr3⟩) (by assumption) ?restlr3
    case hylr3 => (intro w hSw; (try dsimp only at hSw); go_simp <;> with_reducible rfl)
    try simp only [Act.put, List.setIfInBounds_toArray, List.set_cons_zero, List.set_cons_succ]
    refine wpAnyH_take (i := 4) (oi := { dst := some 143, op := Op.fieldAddr 25 (Operand.tmp 5) 1, type := 0, pos := "law.go:104", after := _, guard := some (2, false) }) (v := ?vlr4) rfl (by kernel_rfl) (by kernel_rfl) (by kernel_rfl) (fun _ _ _ h => h) (Or.inl ⟨by rfl, ?hylr4⟩) (by assumption) ?restlr4
    case hylr4 => (intro w hSw; (try dsimp only at hSw); go_simp <;> with_reducible rfl)
    try simp only [Act.put, List.setIfInBounds_toArray, List.set_cons_zero, List.set_cons_succ]
    refine wpAnyH_take (i := 5) (oi := { dst := some 144, op := Op.load 23 (Operand.tmp 143), type := 23, pos := "law.go:104", after := _, guard := some (2, false) }) (v := ?vlr5) rfl (by kernel_rfl) (by kernel_rfl) (by kernel_rfl) (fun _ _ _ h => h) (Or.inl ⟨by rfl, ?hylr5⟩) (by assumption) ?restlr5
    case hylr5 => (intro w hSw; (try dsimp only at hSw); go_simp <;> with_reducible rfl)
    try simp only [Act.put, List.setIfInBounds_toArray, List.set_cons_zero, List.set_cons_succ]
    refine wpAnyH_take (i := 6) (oi := { dst := some 145, op := Op.call { callee := Callee.builtin Builtin.len, args := #[Operand.tmp 144], argTypes := #[23] }, type := 3, pos := "law.go:104", after := _, guard := some (2, false) }) (v := ?vlr6) rfl (by kernel_rfl) (by kernel_rfl) (by kernel_rfl) (fun _ _ _ h => h) (Or.inl ⟨by rfl, ?hylr6⟩) (by assumption) ?restlr6
    case hylr6 => (intro w hSw; (try dsimp only at hSw); go_simp <;> with_reducible rfl)
    try simp only [Act.put, List.setIfInBounds_toArray, List.set_cons_zero, List.set_cons_succ]
    refine wpAnyH_take (i := 7) (oi := { dst := some 146, op := Op.binOp BinOp.geq 3 (Operand.tmp 142) (Operand.tmp 145) 3, type := 4, pos := "law.go:104", after := _, guard := some (2, false) }) (v := .bool false) rfl (by kernel_rfl) (by kernel_rfl) (by kernel_rfl) (fun _ _ _ h => h) (Or.inl ⟨by rfl, ?hylr7⟩) (by assumption) ?restlr7
    case hylr7 => (intro w hSw; (try dsimp only at hSw); go_simp <;> first | done | with_reducible rfl | omega | (simp; done) | (simp; omega) | (simp [*]; done) | (simp [*]; omega) | exact decide_eq_false (by omega) | exact decide_eq_true (by omega))
    try simp only [Act.put, List.setIfInBounds_toArray, List.set_cons_zero, List.set_cons_succ]
    refine wpAnyH_take (i := 8) (oi := { dst := some 147, op := Op.pick (Operand.tmp 141) (Operand.const (Value.bool true)) (Operand.tmp 146), type := 4, pos := "law.go:104", after := _, guard := none }) (v := ?vlr8) rfl (by kernel_rfl) (by kernel_rfl) (by kernel_rfl) (fun _ _ _ h => h) (Or.inl ⟨by rfl, ?hylr8⟩) (by assumption) ?restlr8
    case hylr8 => (intro w hSw; (try dsimp only at hSw); go_simp <;> with_reducible rfl)
    try simp only [Act.put, List.setIfInBounds_toArray, List.set_cons_zero, List.set_cons_succ]
    refine wpAnyH_take (i := 9) (oi := { dst := some 148, op := Op.move (Operand.tmp 147), type := 4, pos := "law.go:104", after := _, guard := none }) (v := ?vlr9) rfl (by kernel_rfl) (by kernel_rfl) (by kernel_rfl) (fun _ _ _ h => h) (Or.inl ⟨by rfl, ?hylr9⟩) (by assumption) ?restlr9
    case hylr9 => (intro w hSw; (try dsimp only at hSw); go_simp <;> with_reducible rfl)
    try simp only [Act.put, List.setIfInBounds_toArray, List.set_cons_zero, List.set_cons_succ]
    refine wpAnyH_take (i := 10) (oi := { dst := some 149, op := Op.move (Operand.tmp 4), type := 3, pos := "law.go:104", after := _, guard := some (9, false) }) (v := ?vlr10) rfl (by kernel_rfl) (by kernel_rfl) (by kernel_rfl) (fun _ _ _ h => h) (Or.inl ⟨by rfl, ?hylr10⟩) (by assumption) ?restlr10
    case hylr10 => (intro w hSw; (try dsimp only at hSw); go_simp <;> with_reducible rfl)
    try simp only [Act.put, List.setIfInBounds_toArray, List.set_cons_zero, List.set_cons_succ]
    refine wpAnyH_take (i := 11) (oi := { dst := some 150, op := Op.move (Operand.tmp 1), type := 3, pos := "law.go:104", after := _, guard := some (9, false) }) (v := ?vlr11) rfl (by kernel_rfl) (by kernel_rfl) (by kernel_rfl) (fun _ _ _ h => h) (Or.inl ⟨by rfl, ?hylr11⟩) (by assumption) ?restlr11
    case hylr11 => (intro w hSw; (try dsimp only at hSw); go_simp <;> with_reducible rfl)
    try simp only [Act.put, List.setIfInBounds_toArray, List.set_cons_zero, List.set_cons_succ]
    refine wpAnyH_take (i := 12) (oi := { dst := some 151, op := Op.binOp BinOp.eql 3 (Operand.tmp 149) (Operand.tmp 150) 3, type := 4, pos := "law.go:104", after := _, guard := some (9, false) }) (v := .bool true) rfl (by kernel_rfl) (by kernel_rfl) (by kernel_rfl) (fun _ _ _ h => h) (Or.inl ⟨by rfl, ?hylr12⟩) (by assumption) ?restlr12
    case hylr12 => (intro w hSw; (try dsimp only at hSw); go_simp <;> first | done | with_reducible rfl | omega | (simp; done) | (simp; omega) | (simp [*]; done) | (simp [*]; omega) | exact decide_eq_false (by omega) | exact decide_eq_true (by omega))
    try simp only [Act.put, List.setIfInBounds_toArray, List.set_cons_zero, List.set_cons_succ]
    refine wpAnyH_take (i := 13) (oi := { dst := some 152, op := Op.pick (Operand.tmp 148) (Operand.const (Value.bool true)) (Operand.tmp 151), type := 4, pos := "law.go:104", after := _, guard := none }) (v := ?vlr13) rfl (by kernel_rfl) (by kernel_rfl) (by kernel_rfl) (fun _ _ _ h => h) (Or.inl ⟨by rfl, ?hylr13⟩) (by assumption) ?restlr13
    case hylr13 => (intro w hSw; (try dsimp only at hSw); go_simp <;> with_reducible rfl)
    try simp only [Act.put, List.setIfInBounds_toArray, List.set_cons_zero, List.set_cons_succ]
    refine wpAnyH_take (i := 14) (oi := { dst := some 153, op := Op.move (Operand.tmp 152), type := 4, pos := "law.go:104", after := _, guard := none }) (v := ?vlr14) rfl (by kernel_rfl) (by kernel_rfl) (by kernel_rfl) (fun _ _ _ h => h) (Or.inl ⟨by rfl, ?hylr14⟩) (by assumption) ?restlr14
    case hylr14 => (intro w hSw; (try dsimp only at hSw); go_simp <;> with_reducible rfl)
    try simp only [Act.put, List.setIfInBounds_toArray, List.set_cons_zero, List.set_cons_succ]
    refine wpAnyH_take (i := 15) (oi := { dst := some 154, op := Op.move (Operand.tmp 4), type := 3, pos := "law.go:104", after := _, guard := some (14, false) }) rfl (by kernel_rfl) (by kernel_rfl) (by kernel_rfl) (fun _ _ _ h => h) (Or.inr ⟨by rfl, rfl⟩) (by assumption) ?_
    try simp only [Act.put, List.setIfInBounds_toArray, List.set_cons_zero, List.set_cons_succ]
    refine wpAnyH_take (i := 16) (oi := { dst := some 155, op := Op.move (Operand.tmp 13), type := 3, pos := "law.go:104", after := _, guard := some (14, false) }) rfl (by kernel_rfl) (by kernel_rfl) (by kernel_rfl) (fun _ _ _ h => h) (Or.inr ⟨by rfl, rfl⟩) (by assumption) ?_
    try simp only [Act.put, List.setIfInBounds_toArray, List.set_cons_zero, List.set_cons_succ]
    refine wpAnyH_take (i := 17) (oi := { dst := some 156, op := Op.binOp BinOp.eql 3 (Operand.tmp 154) (Operand.tmp 155) 3, type := 4, pos := "law.go:104", after := _, guard := some (14, false) }) rfl (by kernel_rfl) (by kernel_rfl) (by kernel_rfl) (fun _ _ _ h => h) (Or.inr ⟨by rfl, rfl⟩) (by assumption) ?_
    try simp only [Act.put, List.setIfInBounds_toArray, List.set_cons_zero, List.set_cons_succ]
    refine wpAnyH_take (i := 18) (oi := { dst := some 157, op := Op.pick (Operand.tmp 153) (Operand.const (Value.bool true)) (Operand.tmp 156), type := 4, pos := "law.go:104", after := _, guard := none }) (v := ?vlr18) rfl (by kernel_rfl) (by kernel_rfl) (by kernel_rfl) (fun _ _ _ h => h) (Or.inl ⟨by rfl, ?hylr18⟩) (by assumption) ?restlr18
    case hylr18 => (intro w hSw; (try dsimp only at hSw); go_simp <;> with_reducible rfl)
    try simp only [Act.put, List.setIfInBounds_toArray, List.set_cons_zero, List.set_cons_succ]
    refine wpAnyH_take (i := 19) (oi := { dst := some 158, op := Op.move (Operand.tmp 157), type := 4, pos := "law.go:104", after := _, guard := none }) (v := ?vlr19) rfl (by kernel_rfl) (by kernel_rfl) (by kernel_rfl) (fun _ _ _ h => h) (Or.inl ⟨by rfl, ?hylr19⟩) (by assumption) ?restlr19
    case hylr19 => (intro w hSw; (try dsimp only at hSw); go_simp <;> with_reducible rfl)
    try simp only [Act.put, List.setIfInBounds_toArray, List.set_cons_zero, List.set_cons_succ]
    refine wpAnyH_take (i := 20) (oi := { dst := some 159, op := Op.fieldAddr 25 (Operand.tmp 12) 1, type := 0, pos := "law.go:104", after := _, guard := some (19, false) }) rfl (by kernel_rfl) (by kernel_rfl) (by kernel_rfl) (fun _ _ _ h => h) (Or.inr ⟨by rfl, rfl⟩) (by assumption) ?_
    try simp only [Act.put, List.setIfInBounds_toArray, List.set_cons_zero, List.set_cons_succ]
    refine wpAnyH_take (i := 21) (oi := { dst := some 160, op := Op.load 23 (Operand.tmp 159), type := 23, pos := "law.go:104", after := _, guard := some (19, false) }) rfl (by kernel_rfl) (by kernel_rfl) (by kernel_rfl) (fun _ _ _ h => h) (Or.inr ⟨by rfl, rfl⟩) (by assumption) ?_
    try simp only [Act.put, List.setIfInBounds_toArray, List.set_cons_zero, List.set_cons_succ]
    refine wpAnyH_take (i := 22) (oi := { dst := some 161, op := Op.move (Operand.tmp 4), type := 3, pos := "law.go:104", after := _, guard := some (19, false) }) rfl (by kernel_rfl) (by kernel_rfl) (by kernel_rfl) (fun _ _ _ h => h) (Or.inr ⟨by rfl, rfl⟩) (by assumption) ?_
    try simp only [Act.put, List.setIfInBounds_toArray, List.set_cons_zero, List.set_cons_succ]
    refine wpAnyH_take (i := 23) (oi := { dst := some 162, op := Op.indexAddr 23 (Operand.tmp 160) (Operand.tmp 161), type := 0, pos := "law.go:104", after := _, guard := some (19, false) }) rfl (by kernel_rfl) (by kernel_rfl) (by kernel_rfl) (fun _ _ _ h => h) (Or.inr ⟨by rfl, rfl⟩) (by assumption) ?_
    try simp only [Act.put, List.setIfInBounds_toArray, List.set_cons_zero, List.set_cons_succ]
    refine wpAnyH_take (i := 24) (oi := { dst := some 163, op := Op.load 37 (Operand.tmp 162), type := 37, pos := "law.go:104", after := _, guard := some (19, false) }) rfl (by kernel_rfl) (by kernel_rfl) (by kernel_rfl) (fun _ _ _ h => h) (Or.inr ⟨by rfl, rfl⟩) (by assumption) ?_
    try simp only [Act.put, List.setIfInBounds_toArray, List.set_cons_zero, List.set_cons_succ]
    refine wpAnyH_take (i := 25) (oi := { dst := some 164, op := Op.fieldAddr 25 (Operand.tmp 5) 1, type := 0, pos := "law.go:104", after := _, guard := some (19, false) }) rfl (by kernel_rfl) (by kernel_rfl) (by kernel_rfl) (fun _ _ _ h => h) (Or.inr ⟨by rfl, rfl⟩) (by assumption) ?_
    try simp only [Act.put, List.setIfInBounds_toArray, List.set_cons_zero, List.set_cons_succ]
    refine wpAnyH_take (i := 26) (oi := { dst := some 165, op := Op.load 23 (Operand.tmp 164), type := 23, pos := "law.go:104", after := _, guard := some (19, false) }) rfl (by kernel_rfl) (by kernel_rfl) (by kernel_rfl) (fun _ _ _ h => h) (Or.inr ⟨by rfl, rfl⟩) (by assumption) ?_
    try simp only [Act.put, List.setIfInBounds_toArray, List.set_cons_zero, List.set_cons_succ]
    refine wpAnyH_take (i := 27) (oi := { dst := some 166, op := Op.move (Operand.tmp 4), type := 3, pos := "law.go:104", after := _, guard := some (19, false) }) rfl (by kernel_rfl) (by kernel_rfl) (by kernel_rfl) (fun _ _ _ h => h) (Or.inr ⟨by rfl, rfl⟩) (by assumption) ?_
    try simp only [Act.put, List.setIfInBounds_toArray, List.set_cons_zero, List.set_cons_succ]
    refine wpAnyH_take (i := 28) (oi := { dst := some 167, op := Op.indexAddr 23 (Operand.tmp 165) (Operand.tmp 166), type := 0, pos := "law.go:104", after := _, guard := some (19, false) }) rfl (by kernel_rfl) (by kernel_rfl) (by kernel_rfl) (fun _ _ _ h => h) (Or.inr ⟨by rfl, rfl⟩) (by assumption) ?_
    try simp only [Act.put, List.setIfInBounds_toArray, List.set_cons_zero, List.set_cons_succ]
    refine wpAnyH_take (i := 29) (oi := { dst := some 168, op := Op.load 37 (Operand.tmp 167), type := 37, pos := "law.go:104", after := _, guard := some (19, false) }) rfl (by kernel_rfl) (by kernel_rfl) (by kernel_rfl) (fun _ _ _ h => h) (Or.inr ⟨by rfl, rfl⟩) (by assumption) ?_
    try simp only [Act.put, List.setIfInBounds_toArray, List.set_cons_zero, List.set_cons_succ]
    refine wpAnyH_take (i := 30) (oi := { dst := some 169, op := Op.binOp BinOp.eql 37 (Operand.tmp 163) (Operand.tmp 168) 37, type := 4, pos := "law.go:104", after := _, guard := some (19, false) }) rfl (by kernel_rfl) (by kernel_rfl) (by kernel_rfl) (fun _ _ _ h => h) (Or.inr ⟨by rfl, rfl⟩) (by assumption) ?_
    try simp only [Act.put, List.setIfInBounds_toArray, List.set_cons_zero, List.set_cons_succ]
    refine wpAnyH_take (i := 31) (oi := { dst := some 170, op := Op.pick (Operand.tmp 158) (Operand.const (Value.bool true)) (Operand.tmp 169), type := 4, pos := "law.go:104", after := _, guard := none }) (v := ?vlr31) rfl (by kernel_rfl) (by kernel_rfl) (by kernel_rfl) (fun _ _ _ h => h) (Or.inl ⟨by rfl, ?hylr31⟩) (by assumption) ?restlr31
    case hylr31 => (intro w hSw; (try dsimp only at hSw); go_simp <;> with_reducible rfl)
    try simp only [Act.put, List.setIfInBounds_toArray, List.set_cons_zero, List.set_cons_succ]
    refine wpAnyH_ready (rs := [32]) (by kernel_rfl) (by simp) ?_
    refine AllReadyH.cons (o := { dst := some 10, op := Op.assign (Operand.tmp 170), type := 4, pos := "law.go:104", after := _, guard := none }) rfl (fun K hK => ?_) AllReadyH.nil
    go_simp
    skip
    refine hK.out _ _ ?_ (fun hHeldlr32 => ?_)
    · exact ⟨(BW3.cell (p := ⟨w.heap.size, 0, none⟩) sl).trans cs0, (BW3.cell (p := ⟨w.heap.size, 1, none⟩) sl).trans cs1, (BW3.cell (p := ⟨w3.heap.size, 0, none⟩) al).trans ca0, (BW3.cell (p := ⟨w3.heap.size, 1, none⟩) al).trans ca1⟩
    clear hK K hHeldlr
    try simp only [Act.put, List.setIfInBounds_toArray, List.set_cons_zero, List.set_cons_succ]
    refine wpAnyH_done (by kernel_rfl) ?_ _
    go_wp2
    go_ret
    exact ⟨rfl, hY5.trans (BW3.mono hY5.size)⟩
  by_cases k4 : (j : Int) = (a : Int)
  · have k3' : ((j : Int) == (n : Int)) = false := by simpa using k3
    have k4' : ((j : Int) == (a : Int)) = true := by simpa using k4
    have BW3 := (Below.refl w5.heap.size w5).drew.drew.drew
    refine wp_region_held_drew (S := fun w' => w'.cell? ⟨w.heap.size, 0, none⟩ = some (.int .i64 cap0) ∧ w'.cell? ⟨w.heap.size, 1, none⟩ = some (.slice (some ⟨b0, o0, none⟩) ps0.length c0) ∧ w'.cell? ⟨w3.heap.size, 0, none⟩ = some (.int .i64 cap0) ∧ w'.cell? ⟨w3.heap.size, 1, none⟩ = some (.slice (some ⟨bA, oA, none⟩) qsA.length dA)) (by kernel_rfl) ?_ (fun hHeldmr => ?_)
    · exact ⟨(BW3.cell (p := ⟨w.heap.size, 0, none⟩) sl).trans cs0, (BW3.cell (p := ⟨w.heap.size, 1, none⟩) sl).trans cs1, (BW3.cell (p := ⟨w3.heap.size, 0, none⟩) al).trans ca0, (BW3.cell (p := ⟨w3.heap.size, 1, none⟩) al).trans ca1⟩
    refine wpAnyH_take (i := 0) (oi := { dst := some 139, op := Op.move (Operand.tmp 4), type := 3, pos := "law.go:104", after := _, guard := none }) (v := ?vmr0) rfl (by kernel_rfl) (by kernel_rfl) (by kernel_rfl) (fun _ _ _ h => h) (Or.inl ⟨by rfl, ?hymr0⟩) (by assumption) ?restmr0
    case hymr0 => (intro w hSw; (try dsimp only at hSw); go_simp <;> with_reducible rfl)
    try simp only [Act.put, List.setIfInBounds_toArray, List.set_cons_zero, List.set_cons_succ]
    refine wpAnyH_take (i := 1) (oi := { dst := some 140, op := Op.binOp BinOp.lss 3 (Operand.tmp 139) (Operand.const (Value.int IntKind.i64 0)) 3, type := 4, pos := "law.go:104", after := _, guard := none }) (v := .bool false) rfl (by kernel_rfl) (by kernel_rfl) (by kernel_rfl) (fun _ _ _ h => h) (Or.inl ⟨by rfl, ?hymr1⟩) (by assumption) ?restmr1
    case hymr1 => (intro w hSw; (try dsimp only at hSw); go_simp <;> first | done | with_reducible rfl | omega | (simp; done) | (simp; omega) | (simp [*]; done) | (simp [*]; omega) | exact decide_eq_false (by omega) | exact decide_eq_true (by omega))
    try simp only [Act.put, List.setIfInBounds_toArray, List.set_cons_zero, List.set_cons_succ]
    refine wpAnyH_take (i := 2) (oi := { dst := some 141, op := Op.move (Operand.tmp 140), type := 4, pos := "law.go:104", after := _, guard := none }) (v := ?vmr2) rfl (by kernel_rfl) (by kernel_rfl) (by kernel_rfl) (fun _ _ _ h => h) (Or.inl ⟨by rfl, ?hymr2⟩) (by assumption) ?restmr2
    case hymr2 => (intro w hSw; (try dsimp only at hSw); go_simp <;> with_reducible rfl)
    try simp only [Act.put, List.setIfInBounds_toArray, List.set_cons_zero, List.set_cons_succ]
    refine wpAnyH_take (i := 3) (oi := { dst := some 142, op := Op.move (Operand.tmp 4), type := 3, pos := "law.go:104", after := _, guard := some (2, false) }) (v := ?vmr3) rfl (by kernel_rfl) (by kernel_rfl) (by kernel_rfl) (fun _ _ _ h => h) (Or.inl ⟨by rfl, ?hymr3⟩) (by assumption) ?restmr3
    case hymr3 => (intro w hSw; (try dsimp only at hSw); go_simp <;> with_reducible rfl)
    try simp only [Act.put, List.setIfInBounds_toArray, List.set_cons_zero, List.set_cons_succ]
    refine wpAnyH_take (i := 4) (oi := { dst := some 143, op := Op.fieldAddr 25 (Operand.tmp 5) 1, type := 0, pos := "law.go:104", after := _, guard := some (2, false) }) (v := ?vmr4) rfl (by kernel_rfl) (by kernel_rfl) (by kernel_rfl) (fun _ _ _ h => h) (Or.inl ⟨by rfl, ?hymr4⟩) (by assumption) ?restmr4
    case hymr4 => (intro w hSw; (try dsimp only at hSw); go_simp <;> with_reducible rfl)
    try simp only [Act.put, List.setIfInBounds_toArray, List.set_cons_zero, List.set_cons_succ]
    refine wpAnyH_take (i := 5) (oi := { dst := some 144, op := Op.load 23 (Operand.tmp 143), type := 23, pos := "law.go:104", after := _, guard := some (2, false) }) (v := ?vmr5) rfl (by kernel_rfl) (by kernel_rfl) (by kernel_rfl) (fun _ _ _ h => h) (Or.inl ⟨by rfl, ?hymr5⟩) (by assumption) ?restmr5
    case hymr5 => (intro w hSw; (try dsimp only at hSw); go_simp <;> with_reducible rfl)
    try simp only [Act.put, List.setIfInBounds_toArray, List.set_cons_zero, List.set_cons_succ]
    refine wpAnyH_take (i := 6) (oi := { dst := some 145, op := Op.call { callee := Callee.builtin Builtin.len, args := #[Operand.tmp 144], argTypes := #[23] }, type := 3, pos := "law.go:104", after := _, guard := some (2, false) }) (v := ?vmr6) rfl (by kernel_rfl) (by kernel_rfl) (by kernel_rfl) (fun _ _ _ h => h) (Or.inl ⟨by rfl, ?hymr6⟩) (by assumption) ?restmr6
    case hymr6 => (intro w hSw; (try dsimp only at hSw); go_simp <;> with_reducible rfl)
    try simp only [Act.put, List.setIfInBounds_toArray, List.set_cons_zero, List.set_cons_succ]
    refine wpAnyH_take (i := 7) (oi := { dst := some 146, op := Op.binOp BinOp.geq 3 (Operand.tmp 142) (Operand.tmp 145) 3, type := 4, pos := "law.go:104", after := _, guard := some (2, false) }) (v := .bool false) rfl (by kernel_rfl) (by kernel_rfl) (by kernel_rfl) (fun _ _ _ h => h) (Or.inl ⟨by rfl, ?hymr7⟩) (by assumption) ?restmr7
    case hymr7 => (intro w hSw; (try dsimp only at hSw); go_simp <;> first | done | with_reducible rfl | omega | (simp; done) | (simp; omega) | (simp [*]; done) | (simp [*]; omega) | exact decide_eq_false (by omega) | exact decide_eq_true (by omega))
    try simp only [Act.put, List.setIfInBounds_toArray, List.set_cons_zero, List.set_cons_succ]
    refine wpAnyH_take (i := 8) (oi := { dst := some 147, op := Op.pick (Operand.tmp 141) (Operand.const (Value.bool true)) (Operand.tmp 146), type := 4, pos := "law.go:104", after := _, guard := none }) (v := ?vmr8) rfl (by kernel_rfl) (by kernel_rfl) (by kernel_rfl) (fun _ _ _ h => h) (Or.inl ⟨by rfl, ?hymr8⟩) (by assumption) ?restmr8
    case hymr8 => (intro w hSw; (try dsimp only at hSw); go_simp <;> with_reducible rfl)
    try simp only [Act.put, List.setIfInBounds_toArray, List.set_cons_zero, List.set_cons_succ]
    refine wpAnyH_take (i := 9) (oi := { dst := some 148, op := Op.move (Operand.tmp 147), type := 4, pos := "law.go:104", after := _, guard := none }) (v := ?vmr9) rfl (by kernel_rfl) (by kernel_rfl) (by kernel_rfl) (fun _ _ _ h => h) (Or.inl ⟨by rfl, ?hymr9⟩) (by assumption) ?restmr9
    case hymr9 => (intro w hSw; (try dsimp only at hSw); go_simp <;> with_reducible rfl)
    try simp only [Act.put, List.setIfInBounds_toArray, List.set_cons_zero, List.set_cons_succ]
    refine wpAnyH_take (i := 10) (oi := { dst := some 149, op := Op.move (Operand.tmp 4), type := 3, pos := "law.go:104", after := _, guard := some (9, false) }) (v := ?vmr10) rfl (by kernel_rfl) (by kernel_rfl) (by kernel_rfl) (fun _ _ _ h => h) (Or.inl ⟨by rfl, ?hymr10⟩) (by assumption) ?restmr10
    case hymr10 => (intro w hSw; (try dsimp only at hSw); go_simp <;> with_reducible rfl)
    try simp only [Act.put, List.setIfInBounds_toArray, List.set_cons_zero, List.set_cons_succ]
    refine wpAnyH_take (i := 11) (oi := { dst := some 150, op := Op.move (Operand.tmp 1), type := 3, pos := "law.go:104", after := _, guard := some (9, false) }) (v := ?vmr11) rfl (by kernel_rfl) (by kernel_rfl) (by kernel_rfl) (fun _ _ _ h => h) (Or.inl ⟨by rfl, ?hymr11⟩) (by assumption) ?restmr11
    case hymr11 => (intro w hSw; (try dsimp only at hSw); go_simp <;> with_reducible rfl)
    try simp only [Act.put, List.setIfInBounds_toArray, List.set_cons_zero, List.set_cons_succ]
    refine wpAnyH_take (i := 12) (oi := { dst := some 151, op := Op.binOp BinOp.eql 3 (Operand.tmp 149) (Operand.tmp 150) 3, type := 4, pos := "law.go:104", after := _, guard := some (9, false) }) (v := .bool false) rfl (by kernel_rfl) (by kernel_rfl) (by kernel_rfl) (fun _ _ _ h => h) (Or.inl ⟨by rfl, ?hymr12⟩) (by assumption) ?restmr12
    case hymr12 => (intro w hSw; (try dsimp only at hSw); go_simp <;> first | done | with_reducible rfl | omega | (simp; done) | (simp; omega) | (simp [*]; done) | (simp [*]; omega) | exact decide_eq_false (by omega) | exact decide_eq_true (by omega))
    try simp only [Act.put, List.setIfInBounds_toArray, List.set_cons_zero, List.set_cons_succ]
    refine wpAnyH_take (i := 13) (oi := { dst := some 152, op := Op.pick (Operand.tmp 148) (Operand.const (Value.bool true)) (Operand.tmp 151), type := 4, pos := "law.go:104", after := _, guard := none }) (v := ?vmr13) rfl (by kernel_rfl) (by kernel_rfl) (by kernel_rfl) (fun _ _ _ h => h) (Or.inl ⟨by rfl, ?hymr13⟩) (by assumption) ?restmr13
    case hymr13 => (intro w hSw; (try dsimp only at hSw); go_simp <;> with_reducible rfl)
    try simp only [Act.put, List.setIfInBounds_toArray, List.set_cons_zero, List.set_cons_succ]
    refine wpAnyH_take (i := 14) (oi := { dst := some 153, op := Op.move (Operand.tmp 152), type := 4, pos := "law.go:104", after := _, guard := none }) (v := ?vmr14) rfl (by kernel_rfl) (by kernel_rfl) (by kernel_rfl) (fun _ _ _ h => h) (Or.inl ⟨by rfl, ?hymr14⟩) (by assumption) ?restmr14
    case hymr14 => (intro w hSw; (try dsimp only at hSw); go_simp <;> with_reducible rfl)
    try simp only [Act.put, List.setIfInBounds_toArray, List.set_cons_zero, List.set_cons_succ]
    refine wpAnyH_take (i := 15) (oi := { dst := some 154, op := Op.move (Operand.tmp 4), type := 3, pos := "law.go:104", after := _, guard := some (14, false) }) (v := ?vmr15) rfl (by kernel_rfl) (by kernel_rfl) (by kernel_rfl) (fun _ _ _ h => h) (Or.inl ⟨by rfl, ?hymr15⟩) (by assumption) ?restmr15
    case hymr15 => (intro w hSw; (try dsimp only at hSw); go_simp <;> with_reducible rfl)
    try simp only [Act.put, List.setIfInBounds_toArray, List.set_cons_zero, List.set_cons_succ]
    refine wpAnyH_take (i := 16) (oi := { dst := some 155, op := Op.move (Operand.tmp 13), type := 3, pos := "law.go:104", after := _, guard := some (14, false) }) (v := ?vmr16) rfl (by kernel_rfl) (by kernel_rfl) (by kernel_rfl) (fun _ _ _ h => h) (Or.inl ⟨by rfl, ?hymr16⟩) (by assumption) ?restmr16
    case hymr16 => (intro w hSw; (try dsimp only at hSw); go_simp <;> with_reducible rfl)
    try simp only [Act.put, List.setIfInBounds_toArray, List.set_cons_zero, List.set_cons_succ]
    refine wpAnyH_take (i := 17) (oi := { dst := some 156, op := Op.binOp BinOp.eql 3 (Operand.tmp 154) (Operand.tmp 155) 3, type := 4, pos := "law.go:104", after := _, guard := some (14, false) }) (v := .bool true) rfl (by kernel_rfl) (by kernel_rfl) (by kernel_rfl) (fun _ _ _ h => h) (Or.inl ⟨by rfl, ?hymr17⟩) (by assumption) ?restmr17
    case hymr17 => (intro w hSw; (try dsimp only at hSw); go_simp <;> first | done | with_reducible rfl | omega | (simp; done) | (simp; omega) | (simp [*]; done) | (simp [*]; omega) | exact decide_eq_false (by omega) | exact decide_eq_true (by omega))
    try simp only [Act.put, List.setIfInBounds_toArray, List.set_cons_zero, List.set_cons_succ]
    refine wpAnyH_take (i := 18) (oi := { dst := some 157, op := Op.pick (Operand.tmp 153) (Operand.const (Value.bool true)) (Operand.tmp 156), type := 4, pos := "law.go:104", after := _, guard := none }) (v := ?vmr18) rfl (by kernel_rfl) (by kernel_rfl) (by kernel_rfl) (fun _ _ _ h => h) (Or.inl ⟨by rfl, ?hymr18⟩) (by assumption) ?restmr18
    case hymr18 => (intro w hSw; (try dsimp only at hSw); go_simp <;> with_reducible rfl)
    try simp only [Act.put, List.setIfInBounds_toArray, List.set_cons_zero, List.set_cons_succ]
    refine wpAnyH_take (i := 19) (oi := { dst := some 158, op := Op.move (Operand.tmp 157), type := 4, pos := "law.go:104", after := _, guard := none }) (v := ?vmr19) rfl (by kernel_rfl) (by kernel_rfl) (by kernel_rfl) (fun _ _ _ h => h) (Or.inl ⟨by rfl, ?hymr19⟩) (by assumption) ?restmr19
    case hymr19 => (intro w hSw; (try dsimp only at hSw); go_simp <;> with_reducible rfl)
    try simp only [Act.put, List.setIfInBounds_toArray, List.set_cons_zero, List.set_cons_succ]
    refine wpAnyH_take (i := 20) (oi := { dst := some 159, op := Op.fieldAddr 25 (Operand.tmp 12) 1, type := 0, pos := "law.go:104", after := _, guard := some (19, false) }) rfl (by kernel_rfl) (by kernel_rfl) (by kernel_rfl) (fun _ _ _ h => h) (Or.inr ⟨by rfl, rfl⟩) (by assumption) ?_
    try simp only [Act.put, List.setIfInBounds_toArray, List.set_cons_zero, List.set_cons_succ]
    refine wpAnyH_take (i := 21) (oi := { dst := some 160, op := Op.load 23 (Operand.tmp 159), type := 23, pos := "law.go:104", after := _, guard := some (19, false) }) rfl (by kernel_rfl) (by kernel_rfl) (by kernel_rfl) (fun _ _ _ h => h) (Or.inr ⟨by rfl, rfl⟩) (by assumption) ?_
    try simp only [Act.put, List.setIfInBounds_toArray, List.set_cons_zero, List.set_cons_succ]
    refine wpAnyH_take (i := 22) (oi := { dst := some 161, op := Op.move (Operand.tmp 4), type := 3, pos := "law.go:104", after := _, guard := some (19, false) }) rfl (by kernel_rfl) (by kernel_rfl) (by kernel_rfl) (fun _ _ _ h => h) (Or.inr ⟨by rfl, rfl⟩) (by assumption) ?_
    try simp only [Act.put, List.setIfInBounds_toArray, List.set_cons_zero, List.set_cons_succ]
    refine wpAnyH_take (i := 23) (oi := { dst := some 162, op := Op.indexAddr 23 (Operand.tmp 160) (Operand.tmp 161), type := 0, pos := "law.go:104", after := _, guard := some (19, false) }) rfl (by kernel_rfl) (by kernel_rfl) (by kernel_rfl) (fun _ _ _ h => h) (Or.inr ⟨by rfl, rfl⟩) (by assumption) ?_
    try simp only [Act.put, List.setIfInBounds_toArray, List.set_cons_zero, List.set_cons_succ]
    refine wpAnyH_take (i := 24) (oi := { dst := some 163, op := Op.load 37 (Operand.tmp 162), type := 37, pos := "law.go:104", after := _, guard := some (19, false) }) rfl (by kernel_rfl) (by kernel_rfl) (by kernel_rfl) (fun _ _ _ h => h) (Or.inr ⟨by rfl, rfl⟩) (by assumption) ?_
    try simp only [Act.put, List.setIfInBounds_toArray, List.set_cons_zero, List.set_cons_succ]
    refine wpAnyH_take (i := 25) (oi := { dst := some 164, op := Op.fieldAddr 25 (Operand.tmp 5) 1, type := 0, pos := "law.go:104", after := _, guard := some (19, false) }) rfl (by kernel_rfl) (by kernel_rfl) (by kernel_rfl) (fun _ _ _ h => h) (Or.inr ⟨by rfl, rfl⟩) (by assumption) ?_
    try simp only [Act.put, List.setIfInBounds_toArray, List.set_cons_zero, List.set_cons_succ]
    refine wpAnyH_take (i := 26) (oi := { dst := some 165, op := Op.load 23 (Operand.tmp 164), type := 23, pos := "law.go:104", after := _, guard := some (19, false) }) rfl (by kernel_rfl) (by kernel_rfl) (by kernel_rfl) (fun _ _ _ h => h) (Or.inr ⟨by rfl, rfl⟩) (by assumption) ?_
    try simp only [Act.put, List.setIfInBounds_toArray, List.set_cons_zero, List.set_cons_succ]
    refine wpAnyH_take (i := 27) (oi := { dst := some 166, op := Op.move (Operand.tmp 4), type := 3, pos := "law.go:104", after := _, guard := some (19, false) }) rfl (by kernel_rfl) (by kernel_rfl) (by kernel_rfl) (fun _ _ _ h => h) (Or.inr ⟨by rfl, rfl⟩) (by assumption) ?_
    try simp only [Act.put, List.setIfInBounds_toArray, List.set_cons_zero, List.set_cons_succ]
    refine wpAnyH_take (i := 28) (oi := { dst := some 167, op := Op.indexAddr 23 (Operand.tmp 165) (Operand.tmp 166), type := 0, pos := "law.go:104", after := _, guard := some (19, false) }) rfl (by kernel_rfl) (by kernel_rfl) (by kernel_rfl) (fun _ _ _ h => h) (Or.inr ⟨by rfl, rfl⟩) (by assumption) ?_
    try simp only [Act.put, List.setIfInBounds_toArray, List.set_cons_zero, List.set_cons_succ]
    refine wpAnyH_take (i := 29) (oi := { dst := some 168, op := Op.load 37 (Operand.tmp 167), type := 37, pos := "law.go:104", after := _, guard := some (19, false) }) rfl (by kernel_rfl) (by kernel_rfl) (by kernel_rfl) (fun _ _ _ h => h) (Or.inr ⟨by rfl, rfl⟩) (by assumption) ?_
    try simp only [Act.put, List.setIfInBounds_toArray, List.set_cons_zero, List.set_cons_succ]
    refine wpAnyH_take (i := 30) (oi := { dst := some 169, op := Op.binOp BinOp.eql 37 (Operand.tmp 163) (Operand.tmp 168) 37, type := 4, pos := "law.go:104", after := _, guard := some (19, false) }) rfl (by kernel_rfl) (by kernel_rfl) (by kernel_rfl) (fun _ _ _ h => h) (Or.inr ⟨by rfl, rfl⟩) (by assumption) ?_
    try simp only [Act.put, List.setIfInBounds_toArray, List.set_cons_zero, List.set_cons_succ]
    refine wpAnyH_take (i := 31) (oi := { dst := some 170, op := Op.pick (Operand.tmp 158) (Operand.const (Value.bool true)) (Operand.tmp 169), type := 4, pos := "law.go:104", after := _, guard := none }) (v := ?vmr31) rfl (by kernel_rfl) (by kernel_rfl) (by kernel_rfl) (fun _ _ _ h => h) (Or.inl ⟨by rfl, ?hymr31⟩) (by assumption) ?restmr31
    case hymr31 => (intro w hSw; (try dsimp only at hSw); go_simp <;> with_reducible rfl)
    try simp only [Act.put, List.setIfInBounds_toArray, List.set_cons_zero, List.set_cons_succ]
    refine wpAnyH_ready (rs := [32]) (by kernel_rfl) (by simp) ?_
    refine AllReadyH.cons (o := { dst := some 10, op := Op.assign (Operand.tmp 170), type := 4, pos := "law.go:104", after := _, guard := none }) rfl (fun K hK => ?_) AllReadyH.nil
    go_simp
    skip
    refine hK.out _ _ ?_ (fun hHeldmr32 => ?_)
    · exact ⟨(BW3.cell (p := ⟨w.heap.size, 0, none⟩) sl).trans cs0, (BW3.cell (p := ⟨w.heap.size, 1, none⟩) sl).trans cs1, (BW3.cell (p := ⟨w3.heap.size, 0, none⟩) al).trans ca0, (BW3.cell (p := ⟨w3.heap.size, 1, none⟩) al).trans ca1⟩
    clear hK K hHeldmr
    try simp only [Act.put, List.setIfInBounds_toArray, List.set_cons_zero, List.set_cons_succ]
    refine wpAnyH_done (by kernel_rfl) ?_ _
    go_wp2
    go_ret
    exact ⟨rfl, hY5.trans (BW3.mono hY5.size)⟩
  have hjq : qsA[j]? = some ps0[j] := by rw [HA.out j hj (by omega) (by omega)]; exact List.getElem?_eq_getElem hj
  obtain ⟨hjA, hjx⟩ := List.getElem?_eq_some_iff.1 hjq
  have hj2 : (j : Int) < (qsA.length : Int) := by omega
  obtain ⟨xj, hxj⟩ : ∃ x, ps0[j] = x := ⟨_, rfl⟩
  rw [hxj] at hjx
  have s0 : w5.cell? ⟨b0, o0 + j * 5, none⟩ = some (.int .i64 xj.r) := by have h := hel0 w5 hD5 j hj 0 _ rfl; rw [hxj] at h; exact h
  have s1 : w5.cell? ⟨b0, o0 + j * 5 + 1, none⟩ = some (.int .i64 xj.a) := by have h := hel0 w5 hD5 j hj 1 _ rfl; rw [hxj] at h; exact h
  have s2 : w5.cell? ⟨b0, o0 + j * 5 + 2, none⟩ = some (.int .i64 xj.b) := by have h := hel0 w5 hD5 j hj 2 _ rfl; rw [hxj] at h; exact h
  have s3 : w5.cell? ⟨b0, o0 + j * 5 + 3, none⟩ = some (.int .i64 xj.c) := by have h := hel0 w5 hD5 j hj 3 _ rfl; rw [hxj] at h; exact h
  have s4 : w5.cell? ⟨b0, o0 + j * 5 + 4, none⟩ = some (.int .i64 xj.d) := by have h := hel0 w5 hD5 j hj 4 _ rfl; rw [hxj] at h; exact h
  have t0 : w5.cell? ⟨bA, oA + j * 5, none⟩ = some (.int .i64 xj.r) := by have h := helA w5 hD5 j hjA 0 _ rfl; rw [hjx] at h; exact h
  have t1 : w5.cell? ⟨bA, oA + j * 5 + 1, none⟩ = some (.int .i64 xj.a) := by have h := helA w5 hD5 j hjA 1 _ rfl; rw [hjx] at h; exact h
  have t2 : w5.cell? ⟨bA, oA + j * 5 + 2, none⟩ = some (.int .i64 xj.b) := by have h := helA w5 hD5 j hjA 2 _ rfl; rw [hjx] at h; exact h
  have t3 : w5.cell? ⟨bA, oA + j * 5 + 3, none⟩ = some (.int .i64 xj.c) := by have h := helA w5 hD5 j hjA 3 _ rfl; rw [hjx] at h; exact h
  have t4 : w5.cell? ⟨bA, oA + j * 5 + 4, none⟩ = some (.int .i64 xj.d) := by have h := helA w5 hD5 j hjA 4 _ rfl; rw [hjx] at h; exact h
  have k3' : ((j : Int) == (n : Int)) = false := by simpa using k3
  have k4' : ((j : Int) == (a : Int)) = false := by simpa using k4
  have eq := fun w => eql_page xj xj w
  rw [pgEq_refl'] at eq
  have eg := fun x y w => guard_page .eql x y xj xj w
  simp only [encP] at eq eg
  clear HA hjq helA hel0
  · skip
    have BW3 := (Below.refl w5.heap.size w5).drew.drew.drew
    refine wp_region_held_drew (S := fun w' => w'.cell? ⟨w.heap.size, 0, none⟩ = some (.int .i64 cap0) ∧ w'.cell? ⟨w.heap.size, 1, none⟩ = some (.slice (some ⟨b0, o0, none⟩) ps0.length c0) ∧ w'.cell? ⟨w3.heap.size, 0, none⟩ = some (.int .i64 cap0) ∧ w'.cell? ⟨w3.heap.size, 1, none⟩ = some (.slice (some ⟨bA, oA, none⟩) qsA.length dA) ∧ w'.cell? ⟨b0, o0 + j * 5, none⟩ = some (.int .i64 xj.r) ∧ w'.cell? ⟨b0, o0 + j * 5 + 1, none⟩ = some (.int .i64 xj.a) ∧ w'.cell? ⟨b0, o0 + j * 5 + 2, none⟩ = some (.int .i64 xj.b) ∧ w'.cell? ⟨b0, o0 + j * 5 + 3, none⟩ = some (.int .i64 xj.c) ∧ w'.cell? ⟨b0, o0 + j * 5 + 4, none⟩ = some (.int .i64 xj.d) ∧ w'.cell? ⟨bA, oA + j * 5, none⟩ = some (.int .i64 xj.r) ∧ w'.cell? ⟨bA, oA + j * 5 + 1, none⟩ = some (.int .i64 xj.a) ∧ w'.cell? ⟨bA, oA + j * 5 + 2, none⟩ = some (.int .i64 xj.b) ∧ w'.cell? ⟨bA, oA + j * 5 + 3, none⟩ = some (.int .i64 xj.c) ∧ w'.cell? ⟨bA, oA + j * 5 + 4, none⟩ = some (.int .i64 xj.d)) (by kernel_rfl) ?_ (fun hHeldnr => ?_)
    · exact ⟨(BW3.cell (p := ⟨w.heap.size, 0, none⟩) sl).trans cs0, (BW3.cell (p := ⟨w.heap.size, 1, none⟩) sl).trans cs1, (BW3.cell (p := ⟨w3.heap.size, 0, none⟩) al).trans ca0, (BW3.cell (p := ⟨w3.heap.size, 1, none⟩) al).trans ca1, (BW3.cell (p := ⟨b0, o0 + j * 5, none⟩) hlb0).trans s0, (BW3.cell (p := ⟨b0, o0 + j * 5 + 1, none⟩) hlb0).trans s1, (BW3.cell (p := ⟨b0, o0 + j * 5 + 2, none⟩) hlb0).trans s2, (BW3.cell (p := ⟨b0, o0 + j * 5 + 3, none⟩) hlb0).trans s3, (BW3.cell (p := ⟨b0, o0 + j * 5 + 4, none⟩) hlb0).trans s4, (BW3.cell (p := ⟨bA, oA + j * 5, none⟩) hlbA).trans t0, (BW3.cell (p := ⟨bA, oA + j * 5 + 1, none⟩) hlbA).trans t1, (BW3.cell (p := ⟨bA, oA + j * 5 + 2, none⟩) hlbA).trans t2, (BW3.cell (p := ⟨bA, oA + j * 5 + 3, none⟩) hlbA).trans t3, (BW3.cell (p := ⟨bA, oA + j * 5 + 4, none⟩) hlbA).trans t4⟩
    refine wpAnyH_take (i := 0) (oi := { dst := some 139, op := Op.move (Operand.tmp 4), type := 3, pos := "law.go:104", after := _, guard := none }) (v := ?vnr0) rfl (by kernel_rfl) (by kernel_rfl) (by kernel_rfl) (fun _ _ _ h => h) (Or.inl ⟨by rfl, ?hynr0⟩) (by assumption) ?restnr0
    case hynr0 => (intro w hSw; (try dsimp only at hSw); go_simp <;> with_reducible rfl)
    try simp only [Act.put, List.setIfInBounds_toArray, List.set_cons_zero, List.set_cons_succ]
    refine wpAnyH_take (i := 1) (oi := { dst := some 140, op := Op.binOp BinOp.lss 3 (Operand.tmp 139) (Operand.const (Value.int IntKind.i64 0)) 3, type := 4, pos := "law.go:104", after := _, guard := none }) (v := .bool false) rfl (by kernel_rfl) (by kernel_rfl) (by kernel_rfl) (fun _ _ _ h => h) (Or.inl ⟨by rfl, ?hynr1⟩) (by assumption) ?restnr1
    case hynr1 => (intro w hSw; (try dsimp only at hSw); go_simp <;> first | done | with_reducible rfl | omega | (simp; done) | (simp; omega) | (simp [*]; done) | (simp [*]; omega) | exact decide_eq_false (by omega) | exact decide_eq_true (by omega))
    try simp only [Act.put, List.setIfInBounds_toArray, List.set_cons_zero, List.set_cons_succ]
    refine wpAnyH_take (i := 2) (oi := { dst := some 141, op := Op.move (Operand.tmp 140), type := 4, pos := "law.go:104", after := _, guard := none }) (v := ?vnr2) rfl (by kernel_rfl) (by kernel_rfl) (by kernel_rfl) (fun _ _ _ h => h) (Or.inl ⟨by rfl, ?hynr2⟩) (by assumption) ?restnr2
    case hynr2 => (intro w hSw; (try dsimp only at hSw); go_simp <;> with_reducible rfl)
    try simp only [Act.put, List.setIfInBounds_toArray, List.set_cons_zero, List.set_cons_succ]
    refine wpAnyH_take (i := 3) (oi := { dst := some 142, op := Op.move (Operand.tmp 4), type := 3, pos := "law.go:104", after := _, guard := some (2, false) }) (v := ?vnr3) rfl (by kernel_rfl) (by kernel_rfl) (by kernel_rfl) (fun _ _ _ h => h) (Or.inl ⟨by rfl, ?hynr3⟩) (by assumption) ?restnr3
    case hynr3 => (intro w hSw; (try dsimp only at hSw); go_simp <;> with_reducible rfl)
    try simp only [Act.put, List.setIfInBounds_toArray, List.set_cons_zero, List.set_cons_succ]
    refine wpAnyH_take (i := 4) (oi := { dst := some 143, op := Op.fieldAddr 25 (Operand.tmp 5) 1, type := 0, pos := "law.go:104", after := _, guard := some (2, false) }) (v := ?vnr4) rfl (by kernel_rfl) (by kernel_rfl) (by kernel_rfl) (fun _ _ _ h => h) (Or.inl ⟨by rfl, ?hynr4⟩) (by assumption) ?restnr4
    case hynr4 => (intro w hSw; (try dsimp only at hSw); go_simp <;> with_reducible rfl)
    try simp only [Act.put, List.setIfInBounds_toArray, List.set_cons_zero, List.set_cons_succ]
    refine wpAnyH_take (i := 5) (oi := { dst := some 144, op := Op.load 23 (Operand.tmp 143), type := 23, pos := "law.go:104", after := _, guard := some (2, false) }) (v := ?vnr5) rfl (by kernel_rfl) (by kernel_rfl) (by kernel_rfl) (fun _ _ _ h => h) (Or.inl ⟨by rfl, ?hynr5⟩) (by assumption) ?restnr5
    case hynr5 => (intro w hSw; (try dsimp only at hSw); go_simp <;> with_reducible rfl)
    try simp only [Act.put, List.setIfInBounds_toArray, List.set_cons_zero, List.set_cons_succ]
    refine wpAnyH_take (i := 6) (oi := { dst := some 145, op := Op.call { callee := Callee.builtin Builtin.len, args := #[Operand.tmp 144], argTypes := #[23] }, type := 3, pos := "law.go:104", after := _, guard := some (2, false) }) (v := ?vnr6) rfl (by kernel_rfl) (by kernel_rfl) (by kernel_rfl) (fun _ _ _ h => h) (Or.inl ⟨by rfl, ?hynr6⟩) (by assumption) ?restnr6
    case hynr6 => (intro w hSw; (try dsimp only at hSw); go_simp <;> with_reducible rfl)
    try simp only [Act.put, List.setIfInBounds_toArray, List.set_cons_zero, List.set_cons_succ]
    refine wpAnyH_take (i := 7) (oi := { dst := some 146, op := Op.binOp BinOp.geq 3 (Operand.tmp 142) (Operand.tmp 145) 3, type := 4, pos := "law.go:104", after := _, guard := some (2, false) }) (v := .bool false) rfl (by kernel_rfl) (by kernel_rfl) (by kernel_rfl) (fun _ _ _ h => h) (Or.inl ⟨by rfl, ?hynr7⟩) (by assumption) ?restnr7
    case hynr7 => (intro w hSw; (try dsimp only at hSw); go_simp <;> first | done | with_reducible rfl | omega | (simp; done) | (simp; omega) | (simp [*]; done) | (simp [*]; omega) | exact decide_eq_false (by omega) | exact decide_eq_true (by omega))
    try simp only [Act.put, List.setIfInBounds_toArray, List.set_cons_zero, List.set_cons_succ]
    refine wpAnyH_take (i := 8) (oi := { dst := some 147, op := Op.pick (Operand.tmp 141) (Operand.const (Value.bool true)) (Operand.tmp 146), type := 4, pos := "law.go:104", after := _, guard := none }) (v := ?vnr8) rfl (by kernel_rfl) (by kernel_rfl) (by kernel_rfl) (fun _ _ _ h => h) (Or.inl ⟨by rfl, ?hynr8⟩) (by assumption) ?restnr8
    case hynr8 => (intro w hSw; (try dsimp only at hSw); go_simp <;> with_reducible rfl)
    try simp only [Act.put, List.setIfInBounds_toArray, List.set_cons_zero, List.set_cons_succ]
    refine wpAnyH_take (i := 9) (oi := { dst := some 148, op := Op.move (Operand.tmp 147), type := 4, pos := "law.go:104", after := _, guard := none }) (v := ?vnr9) rfl (by kernel_rfl) (by kernel_rfl) (by kernel_rfl) (fun _ _ _ h => h) (Or.inl ⟨by rfl, ?hynr9⟩) (by assumption) ?restnr9
    case hynr9 => (intro w hSw; (try dsimp only at hSw); go_simp <;> with_reducible rfl)
    try simp only [Act.put, List.setIfInBounds_toArray, List.set_cons_zero, List.set_cons_succ]
    refine wpAnyH_take (i := 10) (oi := { dst := some 149, op := Op.move (Operand.tmp 4), type := 3, pos := "law.go:104", after := _, guard := some (9, false) }) (v := ?vnr10) rfl (by kernel_rfl) (by kernel_rfl) (by kernel_rfl) (fun _ _ _ h => h) (Or.inl ⟨by rfl, ?hynr10⟩) (by assumption) ?restnr10
    case hynr10 => (intro w hSw; (try dsimp only at hSw); go_simp <;> with_reducible rfl)
    try simp only [Act.put, List.setIfInBounds_toArray, List.set_cons_zero, List.set_cons_succ]
    refine wpAnyH_take (i := 11) (oi := { dst := some 150, op := Op.move (Operand.tmp 1), type := 3, pos := "law.go:104", after := _, guard := some (9, false) }) (v := ?vnr11) rfl (by kernel_rfl) (by kernel_rfl) (by kernel_rfl) (fun _ _ _ h => h) (Or.inl ⟨by rfl, ?hynr11⟩) (by assumption) ?restnr11
    case hynr11 => (intro w hSw; (try dsimp only at hSw); go_simp <;> with_reducible rfl)
    try simp only [Act.put, List.setIfInBounds_toArray, List.set_cons_zero, List.set_cons_succ]
    refine wpAnyH_take (i := 12) (oi := { dst := some 151, op := Op.binOp BinOp.eql 3 (Operand.tmp 149) (Operand.tmp 150) 3, type := 4, pos := "law.go:104", after := _, guard := some (9, false) }) (v := .bool false) rfl (by kernel_rfl) (by kernel_rfl) (by kernel_rfl) (fun _ _ _ h => h) (Or.inl ⟨by rfl, ?hynr12⟩) (by assumption) ?restnr12
    case hynr12 => (intro w hSw; (try dsimp only at hSw); go_simp <;> first | done | with_reducible rfl | omega | (simp; done) | (simp; omega) | (simp [*]; done) | (simp [*]; omega) | exact decide_eq_false (by omega) | exact decide_eq_true (by omega))
    try simp only [Act.put, List.setIfInBounds_toArray, List.set_cons_zero, List.set_cons_succ]
    refine wpAnyH_take (i := 13) (oi := { dst := some 152, op := Op.pick (Operand.tmp 148) (Operand.const (Value.bool true)) (Operand.tmp 151), type := 4, pos := "law.go:104", after := _, guard := none }) (v := ?vnr13) rfl (by kernel_rfl) (by kernel_rfl) (by kernel_rfl) (fun _ _ _ h => h) (Or.inl ⟨by rfl, ?hynr13⟩) (by assumption) ?restnr13
    case hynr13 => (intro w hSw; (try dsimp only at hSw); go_simp <;> with_reducible rfl)
    try simp only [Act.put, List.setIfInBounds_toArray, List.set_cons_zero, List.set_cons_succ]
    refine wpAnyH_take (i := 14) (oi := { dst := some 153, op := Op.move (Operand.tmp 152), type := 4, pos := "law.go:104", after := _, guard := none }) (v := ?vnr14) rfl (by kernel_rfl) (by kernel_rfl) (by kernel_rfl) (fun _ _ _ h => h) (Or.inl ⟨by rfl, ?hynr14⟩) (by assumption) ?restnr14
    case hynr14 => (intro w hSw; (try dsimp only at hSw); go_simp <;> with_reducible rfl)
    try simp only [Act.put, List.setIfInBounds_toArray, List.set_cons_zero, List.set_cons_succ]
    refine wpAnyH_take (i := 15) (oi := { dst := some 154, op := Op.move (Operand.tmp 4), type := 3, pos := "law.go:104", after := _, guard := some (14, false) }) (v := ?vnr15) rfl (by kernel_rfl) (by kernel_rfl) (by kernel_rfl) (fun _ _ _ h => h) (Or.inl ⟨by rfl, ?hynr15⟩) (by assumption) ?restnr15
    case hynr15 => (intro w hSw; (try dsimp only at hSw); go_simp <;> with_reducible rfl)
    try simp only [Act.put, List.setIfInBounds_toArray, List.set_cons_zero, List.set_cons_succ]
    refine wpAnyH_take (i := 16) (oi := { dst := some 155, op := Op.move (Operand.tmp 13), type := 3, pos := "law.go:104", after := _, guard := some (14, false) }) (v := ?vnr16) rfl (by kernel_rfl) (by kernel_rfl) (by kernel_rfl) (fun _ _ _ h => h) (Or.inl ⟨by rfl, ?hynr16⟩) (by assumption) ?restnr16
    case hynr16 => (intro w hSw; (try dsimp only at hSw); go_simp <;> with_reducible rfl)
    try simp only [Act.put, List.setIfInBounds_toArray, List.set_cons_zero, List.set_cons_succ]
    refine wpAnyH_take (i := 17) (oi := { dst := some 156, op := Op.binOp BinOp.eql 3 (Operand.tmp 154) (Operand.tmp 155) 3, type := 4, pos := "law.go:104", after := _, guard := some (14, false) }) (v := .bool false) rfl (by kernel_rfl) (by kernel_rfl) (by kernel_rfl) (fun _ _ _ h => h) (Or.inl ⟨by rfl, ?hynr17⟩) (by assumption) ?restnr17
    case hynr17 => (intro w hSw; (try dsimp only at hSw); go_simp <;> first | done | with_reducible rfl | omega | (simp; done) | (simp; omega) | (simp [*]; done) | (simp [*]; omega) | exact decide_eq_false (by omega) | exact decide_eq_true (by omega))
    try simp only [Act.put, List.setIfInBounds_toArray, List.set_cons_zero, List.set_cons_succ]
    refine wpAnyH_take (i := 18) (oi := { dst := some 157, op := Op.pick (Operand.tmp 153) (Operand.const (Value.bool true)) (Operand.tmp 156), type := 4, pos := "law.go:104", after := _, guard := none }) (v := ?vnr18) rfl (by kernel_rfl) (by kernel_rfl) (by kernel_rfl) (fun _ _ _ h => h) (Or.inl ⟨by rfl, ?hynr18⟩) (by assumption) ?restnr18
    case hynr18 => (intro w hSw; (try dsimp only at hSw); go_simp <;> with_reducible rfl)
    try simp only [Act.put, List.setIfInBounds_toArray, List.set_cons_zero, List.set_cons_succ]
    refine wpAnyH_take (i := 19) (oi := { dst := some 158, op := Op.move (Operand.tmp 157), type := 4, pos := "law.go:104", after := _, guard := none }) (v := ?vnr19) rfl (by kernel_rfl) (by kernel_rfl) (by kernel_rfl) (fun _ _ _ h => h) (Or.inl ⟨by rfl, ?hynr19⟩) (by assumption) ?restnr19
    case hynr19 => (intro w hSw; (try dsimp only at hSw); go_simp <;> with_reducible rfl)
    try simp only [Act.put, List.setIfInBounds_toArray, List.set_cons_zero, List.set_cons_succ]
    refine wpAnyH_take (i := 20) (oi := { dst := some 159, op := Op.fieldAddr 25 (Operand.tmp 12) 1, type := 0, pos := "law.go:104", after := _, guard := some (19, false) }) (v := ?vnr20) rfl (by kernel_rfl) (by kernel_rfl) (by kernel_rfl) (fun _ _ _ h => h) (Or.inl ⟨by rfl, ?hynr20⟩) (by assumption) ?restnr20
    case hynr20 => (intro w hSw; (try dsimp only at hSw); go_simp <;> with_reducible rfl)
    try simp only [Act.put, List.setIfInBounds_toArray, List.set_cons_zero, List.set_cons_succ]
    refine wpAnyH_take (i := 21) (oi := { dst := some 160, op := Op.load 23 (Operand.tmp 159), type := 23, pos := "law.go:104", after := _, guard := some (19, false) }) (v := ?vnr21) rfl (by kernel_rfl) (by kernel_rfl) (by kernel_rfl) (fun _ _ _ h => h) (Or.inl ⟨by rfl, ?hynr21⟩) (by assumption) ?restnr21
    case hynr21 => (intro w hSw; (try dsimp only at hSw); go_simp <;> with_reducible rfl)
    try simp only [Act.put, List.setIfInBounds_toArray, List.set_cons_zero, List.set_cons_succ]
    refine wpAnyH_take (i := 22) (oi := { dst := some 161, op := Op.move (Operand.tmp 4), type := 3, pos := "law.go:104", after := _, guard := some (19, false) }) (v := ?vnr22) rfl (by kernel_rfl) (by kernel_rfl) (by kernel_rfl) (fun _ _ _ h => h) (Or.inl ⟨by rfl, ?hynr22⟩) (by assumption) ?restnr22
    case hynr22 => (intro w hSw; (try dsimp only at hSw); go_simp <;> with_reducible rfl)
    try simp only [Act.put, List.setIfInBounds_toArray, List.set_cons_zero, List.set_cons_succ]
    refine wpAnyH_take (i := 23) (oi := { dst := some 162, op := Op.indexAddr 23 (Operand.tmp 160) (Operand.tmp 161), type := 0, pos := "law.go:104", after := _, guard := some (19, false) }) (v := ?vnr23) rfl (by kernel_rfl) (by kernel_rfl) (by kernel_rfl) (fun _ _ _ h => h) (Or.inl ⟨by rfl, ?hynr23⟩) (by assumption) ?restnr23
    case hynr23 => (intro w hSw; (try dsimp only at hSw); go_simp <;> with_reducible rfl)
    try simp only [Act.put, List.setIfInBounds_toArray, List.set_cons_zero, List.set_cons_succ]
    refine wpAnyH_take (i := 24) (oi := { dst := some 163, op := Op.load 37 (Operand.tmp 162), type := 37, pos := "law.go:104", after := _, guard := some (19, false) }) (v := ?vnr24) rfl (by kernel_rfl) (by kernel_rfl) (by kernel_rfl) (fun _ _ _ h => h) (Or.inl ⟨by rfl, ?hynr24⟩) (by assumption) ?restnr24
    case hynr24 => (intro w hSw; (try dsimp only at hSw); go_simp <;> with_reducible rfl)
    try simp only [Act.put, List.setIfInBounds_toArray, List.set_cons_zero, List.set_cons_succ]
    refine wpAnyH_take (i := 25) (oi := { dst := some 164, op := Op.fieldAddr 25 (Operand.tmp 5) 1, type := 0, pos := "law.go:104", after := _, guard := some (19, false) }) (v := ?vnr25) rfl (by kernel_rfl) (by kernel_rfl) (by kernel_rfl) (fun _ _ _ h => h) (Or.inl ⟨by rfl, ?hynr25⟩) (by assumption) ?restnr25
    case hynr25 => (intro w hSw; (try dsimp only at hSw); go_simp <;> with_reducible rfl)
    try simp only [Act.put, List.setIfInBounds_toArray, List.set_cons_zero, List.set_cons_succ]
    refine wpAnyH_take (i := 26) (oi := { dst := some 165, op := Op.load 23 (Operand.tmp 164), type := 23, pos := "law.go:104", after := _, guard := some (19, false) }) (v := ?vnr26) rfl (by kernel_rfl) (by kernel_rfl) (by kernel_rfl) (fun _ _ _ h => h) (Or.inl ⟨by rfl, ?hynr26⟩) (by assumption) ?restnr26
    case hynr26 => (intro w hSw; (try dsimp only at hSw); go_simp <;> with_reducible rfl)
    try simp only [Act.put, List.setIfInBounds_toArray, List.set_cons_zero, List.set_cons_succ]
    refine wpAnyH_take (i := 27) (oi := { dst := some 166, op := Op.move (Operand.tmp 4), type := 3, pos := "law.go:104", after := _, guard := some (19, false) }) (v := ?vnr27) rfl (by kernel_rfl) (by kernel_rfl) (by kernel_rfl) (fun _ _ _ h => h) (Or.inl ⟨by rfl, ?hynr27⟩) (by assumption) ?restnr27
    case hynr27 => (intro w hSw; (try dsimp only at hSw); go_simp <;> with_reducible rfl)
    try simp only [Act.put, List.setIfInBounds_toArray, List.set_cons_zero, List.set_cons_succ]
    refine wpAnyH_take (i := 28) (oi := { dst := some 167, op := Op.indexAddr 23 (Operand.tmp 165) (Operand.tmp 166), type := 0, pos := "law.go:104", after := _, guard := some (19, false) }) (v := ?vnr28) rfl (by kernel_rfl) (by kernel_rfl) (by kernel_rfl) (fun _ _ _ h => h) (Or.inl ⟨by rfl, ?hynr28⟩) (by assumption) ?restnr28
    case hynr28 => (intro w hSw; (try dsimp only at hSw); go_simp <;> with_reducible rfl)
    try simp only [Act.put, List.setIfInBounds_toArray, List.set_cons_zero, List.set_cons_succ]
    refine wpAnyH_take (i := 29) (oi := { dst := some 168, op := Op.load 37 (Operand.tmp 167), type := 37, pos := "law.go:104", after := _, guard := some (19, false) }) (v := ?vnr29) rfl (by kernel_rfl) (by kernel_rfl) (by kernel_rfl) (fun _ _ _ h => h) (Or.inl ⟨by rfl, ?hynr29⟩) (by assumption) ?restnr29
    case hynr29 => (intro w hSw; (try dsimp only at hSw); go_simp <;> with_reducible rfl)
    try simp only [Act.put, List.setIfInBounds_toArray, List.set_cons_zero, List.set_cons_succ]
    refine wpAnyH_take (i := 30) (oi := { dst := some 169, op := Op.binOp BinOp.eql 37 (Operand.tmp 163) (Operand.tmp 168) 37, type := 4, pos := "law.go:104", after := _, guard := some (19, false) }) (v := ?vnr30) rfl (by kernel_rfl) (by kernel_rfl) (by kernel_rfl) (fun _ _ _ h => h) (Or.inl ⟨by rfl, ?hynr30⟩) (by assumption) ?restnr30
    case hynr30 => (intro w hSw; (try dsimp only at hSw); go_simp <;> with_reducible rfl)
    try simp only [Act.put, List.setIfInBounds_toArray, List.set_cons_zero, List.set_cons_succ]
    refine wpAnyH_take (i := 31) (oi := { dst := some 170, op := Op.pick (Operand.tmp 158) (Operand.const (Value.bool true)) (Operand.tmp 169), type := 4, pos := "law.go:104", after := _, guard := none }) (v := ?vnr31) rfl (by kernel_rfl) (by kernel_rfl) (by kernel_rfl) (fun _ _ _ h => h) (Or.inl ⟨by rfl, ?hynr31⟩) (by assumption) ?restnr31
    case hynr31 => (intro w hSw; (try dsimp only at hSw); go_simp <;> with_reducible rfl)
    try simp only [Act.put, List.setIfInBounds_toArray, List.set_cons_zero, List.set_cons_succ]
    refine wpAnyH_ready (rs := [32]) (by kernel_rfl) (by simp) ?_
    refine AllReadyH.cons (o := { dst := some 10, op := Op.assign (Operand.tmp 170), type := 4, pos := "law.go:104", after := _, guard := none }) rfl (fun K hK => ?_) AllReadyH.nil
    go_simp
    skip
    refine hK.out _ _ ?_ (fun hHeldnr32 => ?_)
    · exact ⟨(BW3.cell (p := ⟨w.heap.size, 0, none⟩) sl).trans cs0, (BW3.cell (p := ⟨w.heap.size, 1, none⟩) sl).trans cs1, (BW3.cell (p := ⟨w3.heap.size, 0, none⟩) al).trans ca0, (BW3.cell (p := ⟨w3.heap.size, 1, none⟩) al).trans ca1, (BW3.cell (p := ⟨b0, o0 + j * 5, none⟩) hlb0).trans s0, (BW3.cell (p := ⟨b0, o0 + j * 5 + 1, none⟩) hlb0).trans s1, (BW3.cell (p := ⟨b0, o0 + j * 5 + 2, none⟩) hlb0).trans s2, (BW3.cell (p := ⟨b0, o0 + j * 5 + 3, none⟩) hlb0).trans s3, (BW3.cell (p := ⟨b0, o0 + j * 5 + 4, none⟩) hlb0).trans s4, (BW3.cell (p := ⟨bA, oA + j * 5, none⟩) hlbA).trans t0, (BW3.cell (p := ⟨bA, oA + j * 5 + 1, none⟩) hlbA).trans t1, (BW3.cell (p := ⟨bA, oA + j * 5 + 2, none⟩) hlbA).trans t2, (BW3.cell (p := ⟨bA, oA + j * 5 + 3, none⟩) hlbA).trans t3, (BW3.cell (p := ⟨bA, oA + j * 5 + 4, none⟩) hlbA).trans t4⟩
    clear hK K hHeldnr
    try simp only [Act.put, List.setIfInBounds_toArray, List.set_cons_zero, List.set_cons_succ]
    refine wpAnyH_done (by kernel_rfl) ?_ _
    go_wp2
    go_ret
    exact ⟨rfl, hY5.trans (BW3.mono hY5.size)⟩

end Go.Proofs.Ytelfkopoppfaaaa