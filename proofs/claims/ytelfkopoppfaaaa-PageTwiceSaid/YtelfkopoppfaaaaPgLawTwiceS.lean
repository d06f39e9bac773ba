/- The walk of PageTwice where the two words are one. -/
import Derived.Test.YtelfkopoppfaaaaPgLawTwice
namespace Go.Proofs.Ytelfkopoppfaaaa
open Go Go.RowKit
set_option linter.unusedVariables false

set_option maxRecDepth 100000 in
set_option maxHeartbeats 4000000 in
theorem twice_same (w : World) (A0 : Option Addr) (c0 : Nat) (cap0 : Int) (ps0 qsA qsB : List Pg) (p i v j u : Int) (q e1 at_ e2 : Int) (hst0 : StV w (.agg #[.int .i64 cap0, .slice A0 ps0.length c0]) cap0 ps0) (hm : mayP cap0 ps0 = true)
    (hA : writeL cap0 ps0 p i v = (q, e1, qsA)) (hB : writeL cap0 qsA q j u = (at_, e2, qsB)) (hqA : qsA.length ≤ 12) (k : Nat) (hj0 : 0 ≤ j) (hj4 : j < 4) (hn0 : 0 ≤ i) (hn4 : i < 4) (he : e1 = 0) (he2 : e2 = 0) (hq : q = k) (hat : at_ = k) (hk : k < qsB.length) (hwj : wget qsB[k] j.toNat = u) (hus : usedL cap0 qsB = usedL cap0 qsA) (hu0 : 0 ≤ usedL cap0 qsA) (hne : (i == j) = true) :
    Calls Try.prog 6 #[.agg #[.int .i64 cap0, .slice A0 ps0.length c0], .int .i64 p, .int .i64 i, .int .i64 v, .int .i64 j, .int .i64 u] w fun e w' => e = .returned (.bool true) ∧ Below w.heap.size w w' := by
  have hlen := may_len hm
  have hmay := fun sv W h => may_any cap0 sv ps0 W h
  rw [hm] at hmay
  have cA := fun x W hs => Write_any x cap0 ps0 p i v W hs (by omega)
  rw [hA] at cA
  have cB := fun x W hs => Write_any x cap0 qsA q j u W hs (by omega)
  rw [hB] at cB
  clear hlen hm hA hB hqA
  subst he he2 hq hat
  have hub := fun x W hs => Used_any x cap0 qsB W hs
  have hua := fun x W hs => Used_any x cap0 qsA W hs
  rw [hus] at hub
  clear hus
  generalize usedL cap0 qsA = U at hub hua hu0
  have hkl : (k : Int) < (qsB.length : Int) := by omega
  have hk0 : (0 : Int) ≤ (k : Int) := by omega
  go_enter Try.func6, Try.ntmps6
  have hA0 := ((Below.refl w.heap.size w).alloc (Nat.le_refl _) (.cells #[.int .i64 cap0, .slice A0 ps0.length c0] 25))
  replace hst0 := hst0.keep hA0
  have kS := Blk.new_ w 25 #[.int .i64 cap0, .slice A0 ps0.length c0] (w.heap.size) (by simp)
  have hZ0 : Below w.heap.size w _ := hA0
  go_wp2_with fail
  refine (awake_any _).mono ?_
  rintro e w1 ⟨rfl, hb1⟩
  obtain ⟨hc1, hf1⟩ := bcell hb1
  have hz1 := hb1.size
  simp at hz1
  replace hst0 := hst0.keep hb1
  replace kS := kS.keep hb1
  have hY1 := hZ0.trans (hb1.mono hZ0.size)
  have zkS_1 : w.heap.size < w1.heap.size := by omega
  have hZ1 : Below w.heap.size w w1 := hY1
  go_wp2_with fail
  refine (hmay _ _ hst0.sl).mono ?_
  rintro e w2 ⟨rfl, hb2⟩
  obtain ⟨hc2, hf2⟩ := bcell hb2
  have hz2 := hb2.size
  replace hst0 := hst0.keep hb2
  replace kS := kS.keep hb2
  have hY2 := hZ1.trans (hb2.mono hZ1.size)
  have zkS_2 : w.heap.size < w2.heap.size := by omega
  have hZ2 : Below w.heap.size w w2 := hY2
  go_wp2_with fail
  refine (cA _ _ hst0).mono ?_
  rintro e w3 ⟨v3, rfl, hstA, hb3⟩
  obtain ⟨hc3, hf3⟩ := bcell hb3
  have hz3 := hb3.size
  replace hst0 := hst0.keep hb3
  replace kS := kS.keep hb3
  have hY3 := hZ2.trans (hb3.mono hZ2.size)
  have zkS_3 : w.heap.size < w3.heap.size := by omega
  obtain ⟨AA, dA, rfl, hstA⟩ := hstA.form
  have hA3 := ((Below.refl w3.heap.size w3).alloc (Nat.le_refl _) (.cells #[.int .i64 cap0, .slice AA qsA.length dA] 25))
  replace hst0 := hst0.keep hA3
  replace kS := kS.keep hA3
  replace hstA := hstA.keep hA3
  have kA := Blk.new_ w3 25 #[.int .i64 cap0, .slice AA qsA.length dA] (w3.heap.size) (by simp)
  have hZ3 : Below w.heap.size w _ := hY3.trans (hA3.mono hY3.size)
  go_wp2_with fail
  refine (cB _ _ hstA).mono ?_
  rintro e w4 ⟨v4, rfl, hstB, hb4⟩
  obtain ⟨hc4, hf4⟩ := bcell hb4
  have hz4 := hb4.size
  simp at hz4
  replace hst0 := hst0.keep hb4
  replace kS := kS.keep hb4
  replace hstA := hstA.keep hb4
  replace kA := kA.keep hb4
  have hY4 := hZ3.trans (hb4.mono hZ3.size)
  have zkS_4 : w.heap.size < w4.heap.size := by omega
  have zkA_4 : w3.heap.size < w4.heap.size := by omega
  obtain ⟨AB, dB, rfl, hstB⟩ := hstB.form
  obtain ⟨bB, oB, rfl, hltB, -, helB⟩ := hstB.elem (by omega)
  have fj := fun W hW => helB W hW k hk (1 + j.toNat) _ (wget_enc qsB[k] j.toNat (by omega))
  rw [hwj] at fj
  clear helB hwj
  have xj : w4.cell? ⟨bB, oB + k * 5 + 1 + j.toNat, none⟩ = some (.int .i64 u) := by have := fj w4 (Below.refl _ _); rwa [show oB + k * 5 + (1 + j.toNat) = oB + k * 5 + 1 + j.toNat from by omega] at this
  clear fj
  go_wp2_with fail
  have bz4 := (Below.refl w4.heap.size w4).alloc (Nat.le_refl _) (.cells #[.int .i64 cap0, .slice (some ⟨bB, oB, none⟩) qsB.length dB] 25)
  have hA4 := ((Below.refl w4.heap.size w4).alloc (Nat.le_refl _) (.cells #[.int .i64 cap0, .slice (some ⟨bB, oB, none⟩) qsB.length dB] 25))
  replace hst0 := hst0.keep hA4
  replace kS := kS.keep hA4
  replace hstA := hstA.keep hA4
  replace kA := kA.keep hA4
  replace hstB := hstB.keep hA4
  have kB := Blk.new_ w4 25 #[.int .i64 cap0, .slice (some ⟨bB, oB, none⟩) qsB.length dB] (w4.heap.size) (by simp)
  have hZ4 : Below w.heap.size w _ := hY4.trans (hA4.mono hY4.size)
  obtain ⟨w5, hw5⟩ : ∃ x, (w4.alloc (.cells #[.int .i64 cap0, .slice (some ⟨bB, oB, none⟩) qsB.length dB] 25)) = x := ⟨_, rfl⟩
  rw [hw5] at hst0
  rw [hw5] at kS
  rw [hw5] at hstA
  rw [hw5] at kA
  rw [hw5] at hstB
  rw [hw5] at kB
  have hY5 := hZ4
  rw [hw5] at hY5 ⊢
  have kS_lt := kS.lt
  have kS_0 : w5.cell? ⟨w.heap.size, 0, none⟩ = some (.int .i64 cap0) := by rw [kS.cell]; rfl
  have kS_1 : w5.cell? ⟨w.heap.size, 1, none⟩ = some (.slice A0 ps0.length c0) := by rw [kS.cell]; rfl
  have kA_lt := kA.lt
  have kA_0 : w5.cell? ⟨w3.heap.size, 0, none⟩ = some (.int .i64 cap0) := by rw [kA.cell]; rfl
  have kA_1 : w5.cell? ⟨w3.heap.size, 1, none⟩ = some (.slice AA qsA.length dA) := by rw [kA.cell]; rfl
  have kB_lt := kB.lt
  have kB_0 : w5.cell? ⟨w4.heap.size, 0, none⟩ = some (.int .i64 cap0) := by rw [kB.cell]; rfl
  have kB_1 : w5.cell? ⟨w4.heap.size, 1, none⟩ = some (.slice (some ⟨bB, oB, none⟩) qsB.length dB) := by rw [kB.cell]; rfl
  rw [hw5] at bz4
  have yj := (bz4.cell (p := ⟨bB, oB + k * 5 + 1 + j.toNat, none⟩) hltB).trans xj
  have hltB2 : bB < w5.heap.size := Nat.lt_of_lt_of_le hltB bz4.size
  have BW := (Below.refl w5.heap.size w5).drew
  refine wp_region_held_drew (S := fun w' => w'.cell? ⟨w.heap.size, 0, none⟩ = some (.int .i64 cap0) ∧ w'.cell? ⟨w.heap.size, 1, none⟩ = some (.slice A0 ps0.length c0) ∧ w'.cell? ⟨w3.heap.size, 0, none⟩ = some (.int .i64 cap0) ∧ w'.cell? ⟨w3.heap.size, 1, none⟩ = some (.slice AA qsA.length dA) ∧ w'.cell? ⟨w4.heap.size, 0, none⟩ = some (.int .i64 cap0) ∧ w'.cell? ⟨w4.heap.size, 1, none⟩ = some (.slice (some ⟨bB, oB, none⟩) qsB.length dB) ∧ w'.cell? ⟨bB, oB + k * 5 + 1 + j.toNat, none⟩ = some (.int .i64 u) ∧ Below w5.heap.size w5 w') (by kernel_rfl) ?_ (fun hHeld => ?_)
  · exact ⟨(BW.cell (p := ⟨w.heap.size, 0, none⟩) kS_lt).trans kS_0, (BW.cell (p := ⟨w.heap.size, 1, none⟩) kS_lt).trans kS_1, (BW.cell (p := ⟨w3.heap.size, 0, none⟩) kA_lt).trans kA_0, (BW.cell (p := ⟨w3.heap.size, 1, none⟩) kA_lt).trans kA_1, (BW.cell (p := ⟨w4.heap.size, 0, none⟩) kB_lt).trans kB_0, (BW.cell (p := ⟨w4.heap.size, 1, none⟩) kB_lt).trans kB_1, (BW.cell (p := ⟨bB, oB + k * 5 + 1 + j.toNat, none⟩) hltB2).trans yj, BW⟩
  refine wpAnyH_take (i := 0) (oi := { dst := some 83, op := Op.fieldAddr 25 (Operand.tmp 17) 1, type := 0, pos := "more.go:41", after := _, guard := none }) (v := ?v0) rfl (by kernel_rfl) (by kernel_rfl) (by kernel_rfl) (fun _ _ _ h => h) (Or.inl ⟨by rfl, ?hy0⟩) (by assumption) ?rest0
  case hy0 => (intro w hSw; (try dsimp only at hSw); go_simp <;> with_reducible rfl)
  try simp only [Act.put, List.setIfInBounds_toArray, List.set_cons_zero, List.set_cons_succ]
  refine wpAnyH_take (i := 1) (oi := { dst := some 84, op := Op.load 23 (Operand.tmp 83), type := 23, pos := "more.go:41", after := _, guard := none }) (v := ?v1) rfl (by kernel_rfl) (by kernel_rfl) (by kernel_rfl) (fun _ _ _ h => h) (Or.inl ⟨by rfl, ?hy1⟩) (by assumption) ?rest1
  case hy1 => (intro w hSw; (try dsimp only at hSw); go_simp <;> with_reducible rfl)
  try simp only [Act.put, List.setIfInBounds_toArray, List.set_cons_zero, List.set_cons_succ]
  refine wpAnyH_take (i := 2) (oi := { dst := some 85, op := Op.move (Operand.tmp 15), type := 3, pos := "more.go:41", after := _, guard := none }) (v := ?v2) rfl (by kernel_rfl) (by kernel_rfl) (by kernel_rfl) (fun _ _ _ h => h) (Or.inl ⟨by rfl, ?hy2⟩) (by assumption) ?rest2
  case hy2 => (intro w hSw; (try dsimp only at hSw); go_simp <;> with_reducible rfl)
  try simp only [Act.put, List.setIfInBounds_toArray, List.set_cons_zero, List.set_cons_succ]
  refine wpAnyH_take (i := 3) (oi := { dst := some 86, op := Op.move (Operand.tmp 4), type := 3, pos := "more.go:41", after := _, guard := none }) (v := ?v3) rfl (by kernel_rfl) (by kernel_rfl) (by kernel_rfl) (fun _ _ _ h => h) (Or.inl ⟨by rfl, ?hy3⟩) (by assumption) ?rest3
  case hy3 => (intro w hSw; (try dsimp only at hSw); go_simp <;> with_reducible rfl)
  try simp only [Act.put, List.setIfInBounds_toArray, List.set_cons_zero, List.set_cons_succ]
  refine wpAnyH_take (i := 4) (oi := { dst := some 87, op := Op.indexAddr 23 (Operand.tmp 84) (Operand.tmp 85), type := 0, pos := "more.go:41", after := _, guard := none }) (v := ?v4) rfl (by kernel_rfl) (by kernel_rfl) (by kernel_rfl) (fun _ _ _ h => h) (Or.inl ⟨by rfl, ?hy4⟩) (by assumption) ?rest4
  case hy4 => (intro w hSw; (try dsimp only at hSw); go_simp <;> with_reducible rfl)
  try simp only [Act.put, List.setIfInBounds_toArray, List.set_cons_zero, List.set_cons_succ]
  refine wpAnyH_take (i := 5) (oi := { dst := some 88, op := Op.fieldAddr 37 (Operand.tmp 87) 1, type := 0, pos := "more.go:41", after := _, guard := none }) (v := ?v5) rfl (by kernel_rfl) (by kernel_rfl) (by kernel_rfl) (fun _ _ _ h => h) (Or.inl ⟨by rfl, ?hy5⟩) (by assumption) ?rest5
  case hy5 => (intro w hSw; (try dsimp only at hSw); go_simp <;> with_reducible rfl)
  try simp only [Act.put, List.setIfInBounds_toArray, List.set_cons_zero, List.set_cons_succ]
  refine wpAnyH_take (i := 6) (oi := { dst := some 89, op := Op.indexAddr 35 (Operand.tmp 88) (Operand.tmp 86), type := 0, pos := "more.go:41", after := _, guard := none }) (v := ?v6) rfl (by kernel_rfl) (by kernel_rfl) (by kernel_rfl) (fun _ _ _ h => h) (Or.inl ⟨by rfl, ?hy6⟩) (by assumption) ?rest6
  case hy6 => (intro w hSw; (try dsimp only at hSw); go_simp <;> with_reducible rfl)
  try simp only [Act.put, List.setIfInBounds_toArray, List.set_cons_zero, List.set_cons_succ]
  refine wpAnyH_take (i := 7) (oi := { dst := some 90, op := Op.load 3 (Operand.tmp 89), type := 3, pos := "more.go:41", after := _, guard := none }) (v := ?v7) rfl (by kernel_rfl) (by kernel_rfl) (by kernel_rfl) (fun _ _ _ h => h) (Or.inl ⟨by rfl, ?hy7⟩) (by assumption) ?rest7
  case hy7 => (intro w hSw; (try dsimp only at hSw); go_simp <;> with_reducible rfl)
  try simp only [Act.put, List.setIfInBounds_toArray, List.set_cons_zero, List.set_cons_succ]
  refine wpAnyH_take (i := 8) (oi := { dst := some 91, op := Op.move (Operand.tmp 5), type := 3, pos := "more.go:41", after := _, guard := none }) (v := ?v8) rfl (by kernel_rfl) (by kernel_rfl) (by kernel_rfl) (fun _ _ _ h => h) (Or.inl ⟨by rfl, ?hy8⟩) (by assumption) ?rest8
  case hy8 => (intro w hSw; (try dsimp only at hSw); go_simp <;> with_reducible rfl)
  try simp only [Act.put, List.setIfInBounds_toArray, List.set_cons_zero, List.set_cons_succ]
  refine wpAnyH_take (i := 9) (oi := { dst := some 92, op := Op.binOp BinOp.eql 3 (Operand.tmp 90) (Operand.tmp 91) 3, type := 4, pos := "more.go:41", after := _, guard := none }) (v := ?v9) rfl (by kernel_rfl) (by kernel_rfl) (by kernel_rfl) (fun _ _ _ h => h) (Or.inl ⟨by rfl, ?hy9⟩) (by assumption) ?rest9
  case hy9 => (intro w hSw; (try dsimp only at hSw); go_simp <;> with_reducible rfl)
  try simp only [Act.put, List.setIfInBounds_toArray, List.set_cons_zero, List.set_cons_succ]
  refine wpAnyH_take (i := 10) (oi := { dst := some 93, op := Op.move (Operand.tmp 92), type := 4, pos := "more.go:41", after := _, guard := none }) (v := ?v10) rfl (by kernel_rfl) (by kernel_rfl) (by kernel_rfl) (fun _ _ _ h => h) (Or.inl ⟨by rfl, ?hy10⟩) (by assumption) ?rest10
  case hy10 => (intro w hSw; (try dsimp only at hSw); go_simp <;> with_reducible rfl)
  try simp only [Act.put, List.setIfInBounds_toArray, List.set_cons_zero, List.set_cons_succ]
  refine wpAnyH_take (i := 11) (oi := { dst := some 94, op := Op.move (Operand.tmp 2), type := 3, pos := "more.go:41", after := _, guard := some (10, true) }) (v := ?v11) rfl (by kernel_rfl) (by kernel_rfl) (by kernel_rfl) (fun _ _ _ h => h) (Or.inl ⟨by rfl, ?hy11⟩) (by assumption) ?rest11
  case hy11 => (intro w hSw; (try dsimp only at hSw); go_simp <;> with_reducible rfl)
  try simp only [Act.put, List.setIfInBounds_toArray, List.set_cons_zero, List.set_cons_succ]
  refine wpAnyH_take (i := 12) (oi := { dst := some 95, op := Op.move (Operand.tmp 4), type := 3, pos := "more.go:41", after := _, guard := some (10, true) }) (v := ?v12) rfl (by kernel_rfl) (by kernel_rfl) (by kernel_rfl) (fun _ _ _ h => h) (Or.inl ⟨by rfl, ?hy12⟩) (by assumption) ?rest12
  case hy12 => (intro w hSw; (try dsimp only at hSw); go_simp <;> with_reducible rfl)
  try simp only [Act.put, List.setIfInBounds_toArray, List.set_cons_zero, List.set_cons_succ]
  refine wpAnyH_take (i := 13) (oi := { dst := some 96, op := Op.binOp BinOp.eql 3 (Operand.tmp 94) (Operand.tmp 95) 3, type := 4, pos := "more.go:41", after := _, guard := some (10, true) }) (v := ?v13) rfl (by kernel_rfl) (by kernel_rfl) (by kernel_rfl) (fun _ _ _ h => h) (Or.inl ⟨by rfl, ?hy13⟩) (by assumption) ?rest13
  case hy13 => (intro w hSw; (try dsimp only at hSw); go_simp <;> with_reducible rfl)
  try simp only [Act.put, List.setIfInBounds_toArray, List.set_cons_zero, List.set_cons_succ]
  refine wpAnyH_take (i := 14) (oi := { dst := some 97, op := Op.move (Operand.tmp 96), type := 4, pos := "more.go:41", after := _, guard := some (10, true) }) (v := ?v14) rfl (by kernel_rfl) (by kernel_rfl) (by kernel_rfl) (fun _ _ _ h => h) (Or.inl ⟨by rfl, ?hy14⟩) (by assumption) ?rest14
  case hy14 => (intro w hSw; (try dsimp only at hSw); go_simp <;> with_reducible rfl)
  try simp only [Act.put, List.setIfInBounds_toArray, List.set_cons_zero, List.set_cons_succ]
  refine wpAnyH_take (i := 15) (oi := { dst := some 98, op := Op.fieldAddr 25 (Operand.tmp 17) 1, type := 0, pos := "more.go:41", after := _, guard := some (14, false) }) rfl (by kernel_rfl) (by kernel_rfl) (by kernel_rfl) (fun _ _ _ h => h) (Or.inr ⟨by rfl, rfl⟩) (by assumption) ?_
  try simp only [Act.put, List.setIfInBounds_toArray, List.set_cons_zero, List.set_cons_succ]
  refine wpAnyH_take (i := 16) (oi := { dst := some 99, op := Op.load 23 (Operand.tmp 98), type := 23, pos := "more.go:41", after := _, guard := some (14, false) }) rfl (by kernel_rfl) (by kernel_rfl) (by kernel_rfl) (fun _ _ _ h => h) (Or.inr ⟨by rfl, rfl⟩) (by assumption) ?_
  try simp only [Act.put, List.setIfInBounds_toArray, List.set_cons_zero, List.set_cons_succ]
  refine wpAnyH_take (i := 17) (oi := { dst := some 100, op := Op.move (Operand.tmp 15), type := 3, pos := "more.go:41", after := _, guard := some (14, false) }) rfl (by kernel_rfl) (by kernel_rfl) (by kernel_rfl) (fun _ _ _ h => h) (Or.inr ⟨by rfl, rfl⟩) (by assumption) ?_
  try simp only [Act.put, List.setIfInBounds_toArray, List.set_cons_zero, List.set_cons_succ]
  refine wpAnyH_take (i := 18) (oi := { dst := some 101, op := Op.move (Operand.tmp 2), type := 3, pos := "more.go:41", after := _, guard := some (14, false) }) rfl (by kernel_rfl) (by kernel_rfl) (by kernel_rfl) (fun _ _ _ h => h) (Or.inr ⟨by rfl, rfl⟩) (by assumption) ?_
  try simp only [Act.put, List.setIfInBounds_toArray, List.set_cons_zero, List.set_cons_succ]
  refine wpAnyH_take (i := 19) (oi := { dst := some 102, op := Op.indexAddr 23 (Operand.tmp 99) (Operand.tmp 100), type := 0, pos := "more.go:41", after := _, guard := some (14, false) }) rfl (by kernel_rfl) (by kernel_rfl) (by kernel_rfl) (fun _ _ _ h => h) (Or.inr ⟨by rfl, rfl⟩) (by assumption) ?_
  try simp only [Act.put, List.setIfInBounds_toArray, List.set_cons_zero, List.set_cons_succ]
  refine wpAnyH_take (i := 20) (oi := { dst := some 103, op := Op.fieldAddr 37 (Operand.tmp 102) 1, type := 0, pos := "more.go:41", after := _, guard := some (14, false) }) rfl (by kernel_rfl) (by kernel_rfl) (by kernel_rfl) (fun _ _ _ h => h) (Or.inr ⟨by rfl, rfl⟩) (by assumption) ?_
  try simp only [Act.put, List.setIfInBounds_toArray, List.set_cons_zero, List.set_cons_succ]
  refine wpAnyH_take (i := 21) (oi := { dst := some 104, op := Op.indexAddr 35 (Operand.tmp 103) (Operand.tmp 101), type := 0, pos := "more.go:41", after := _, guard := some (14, false) }) rfl (by kernel_rfl) (by kernel_rfl) (by kernel_rfl) (fun _ _ _ h => h) (Or.inr ⟨by rfl, rfl⟩) (by assumption) ?_
  try simp only [Act.put, List.setIfInBounds_toArray, List.set_cons_zero, List.set_cons_succ]
  refine wpAnyH_take (i := 22) (oi := { dst := some 105, op := Op.load 3 (Operand.tmp 104), type := 3, pos := "more.go:41", after := _, guard := some (14, false) }) rfl (by kernel_rfl) (by kernel_rfl) (by kernel_rfl) (fun _ _ _ h => h) (Or.inr ⟨by rfl, rfl⟩) (by assumption) ?_
  try simp only [Act.put, List.setIfInBounds_toArray, List.set_cons_zero, List.set_cons_succ]
  refine wpAnyH_take (i := 23) (oi := { dst := some 106, op := Op.move (Operand.tmp 3), type := 3, pos := "more.go:41", after := _, guard := some (14, false) }) rfl (by kernel_rfl) (by kernel_rfl) (by kernel_rfl) (fun _ _ _ h => h) (Or.inr ⟨by rfl, rfl⟩) (by assumption) ?_
  try simp only [Act.put, List.setIfInBounds_toArray, List.set_cons_zero, List.set_cons_succ]
  refine wpAnyH_take (i := 24) (oi := { dst := some 107, op := Op.binOp BinOp.eql 3 (Operand.tmp 105) (Operand.tmp 106) 3, type := 4, pos := "more.go:41", after := _, guard := some (14, false) }) rfl (by kernel_rfl) (by kernel_rfl) (by kernel_rfl) (fun _ _ _ h => h) (Or.inr ⟨by rfl, rfl⟩) (by assumption) ?_
  try simp only [Act.put, List.setIfInBounds_toArray, List.set_cons_zero, List.set_cons_succ]
  refine wpAnyH_take (i := 25) (oi := { dst := some 108, op := Op.pick (Operand.tmp 97) (Operand.const (Value.bool true)) (Operand.tmp 107), type := 4, pos := "more.go:41", after := _, guard := some (10, true) }) (v := ?v25) rfl (by kernel_rfl) (by kernel_rfl) (by kernel_rfl) (fun _ _ _ h => h) (Or.inl ⟨by rfl, ?hy25⟩) (by assumption) ?rest25
  case hy25 => (intro w hSw; (try dsimp only at hSw); go_simp <;> with_reducible rfl)
  try simp only [Act.put, List.setIfInBounds_toArray, List.set_cons_zero, List.set_cons_succ]
  refine wpAnyH_take (i := 26) (oi := { dst := some 109, op := Op.pick (Operand.tmp 93) (Operand.tmp 108) (Operand.const (Value.bool false)), type := 4, pos := "more.go:41", after := _, guard := none }) (v := ?v26) rfl (by kernel_rfl) (by kernel_rfl) (by kernel_rfl) (fun _ _ _ h => h) (Or.inl ⟨by rfl, ?hy26⟩) (by assumption) ?rest26
  case hy26 => (intro w hSw; (try dsimp only at hSw); go_simp <;> with_reducible rfl)
  try simp only [Act.put, List.setIfInBounds_toArray, List.set_cons_zero, List.set_cons_succ]
  refine wpAnyH_take (i := 27) (oi := { dst := some 110, op := Op.move (Operand.tmp 109), type := 4, pos := "more.go:41", after := _, guard := none }) (v := ?v27) rfl (by kernel_rfl) (by kernel_rfl) (by kernel_rfl) (fun _ _ _ h => h) (Or.inl ⟨by rfl, ?hy27⟩) (by assumption) ?rest27
  case hy27 => (intro w hSw; (try dsimp only at hSw); go_simp <;> with_reducible rfl)
  try simp only [Act.put, List.setIfInBounds_toArray, List.set_cons_zero, List.set_cons_succ]
  refine wpAnyH_take (i := 28) (oi := { dst := some 111, op := Op.load 25 (Operand.tmp 17), type := 25, pos := "more.go:41", after := _, guard := some (27, true) }) (v := ?v28) rfl (by kernel_rfl) (by kernel_rfl) (by kernel_rfl) (fun _ _ _ h => h) (Or.inl ⟨by rfl, ?hy28⟩) (by assumption) ?rest28
  case hy28 => (intro w hSw; (try dsimp only at hSw); go_simp <;> with_reducible rfl)
  try simp only [Act.put, List.setIfInBounds_toArray, List.set_cons_zero, List.set_cons_succ]
  refine wpAnyH_take (i := 30) (oi := { dst := some 113, op := Op.load 25 (Operand.tmp 14), type := 25, pos := "more.go:41", after := _, guard := some (27, true) }) (v := ?v30) rfl (by kernel_rfl) (by kernel_rfl) (by kernel_rfl) (fun _ _ _ h => h) (Or.inl ⟨by rfl, ?hy30⟩) (by assumption) ?rest30
  case hy30 => (intro w hSw; (try dsimp only at hSw); go_simp <;> with_reducible rfl)
  try simp only [Act.put, List.setIfInBounds_toArray, List.set_cons_zero, List.set_cons_succ]
  refine wpAnyH_ready (rs := [29]) (by kernel_rfl) (by simp) ?_
  refine AllReadyH.cons (o := { dst := some 112, op := Op.call { callee := Callee.value (Operand.func 13), args := #[Operand.tmp 111], argTypes := #[25] }, type := 3, pos := "more.go:41", after := _, guard := some (27, true) }) rfl (fun K hK => ?_) AllReadyH.nil
  go_simp
  refine (hub _ _ (hstB.keep BW)).mono ?_
  rintro e w6 ⟨rfl, hb6'⟩
  have hX6 := (BW).trans (hb6'.mono (BW).size)
  try go_wp2_with fail
  refine hK.out _ _ ?_ (fun hHeld6 => ?_)
  · exact ⟨(hX6.cell (p := ⟨w.heap.size, 0, none⟩) kS_lt).trans kS_0, (hX6.cell (p := ⟨w.heap.size, 1, none⟩) kS_lt).trans kS_1, (hX6.cell (p := ⟨w3.heap.size, 0, none⟩) kA_lt).trans kA_0, (hX6.cell (p := ⟨w3.heap.size, 1, none⟩) kA_lt).trans kA_1, (hX6.cell (p := ⟨w4.heap.size, 0, none⟩) kB_lt).trans kB_0, (hX6.cell (p := ⟨w4.heap.size, 1, none⟩) kB_lt).trans kB_1, (hX6.cell (p := ⟨bB, oB + k * 5 + 1 + j.toNat, none⟩) hltB2).trans yj, hX6⟩
  clear hK K
  try simp only [Act.put, List.setIfInBounds_toArray, List.set_cons_zero, List.set_cons_succ]
  clear hHeld
  refine wpAnyH_ready (rs := [31]) (by kernel_rfl) (by simp) ?_
  refine AllReadyH.cons (o := { dst := some 114, op := Op.call { callee := Callee.value (Operand.func 13), args := #[Operand.tmp 113], argTypes := #[25] }, type := 3, pos := "more.go:41", after := _, guard := some (27, true) }) rfl (fun K hK => ?_) AllReadyH.nil
  go_simp
  refine (hua _ _ (hstA.keep hX6)).mono ?_
  rintro e w7 ⟨rfl, hb7'⟩
  have hX7 := (hX6).trans (hb7'.mono (hX6).size)
  try go_wp2_with fail
  refine hK.out _ _ ?_ (fun hHeld7 => ?_)
  · exact ⟨(hX7.cell (p := ⟨w.heap.size, 0, none⟩) kS_lt).trans kS_0, (hX7.cell (p := ⟨w.heap.size, 1, none⟩) kS_lt).trans kS_1, (hX7.cell (p := ⟨w3.heap.size, 0, none⟩) kA_lt).trans kA_0, (hX7.cell (p := ⟨w3.heap.size, 1, none⟩) kA_lt).trans kA_1, (hX7.cell (p := ⟨w4.heap.size, 0, none⟩) kB_lt).trans kB_0, (hX7.cell (p := ⟨w4.heap.size, 1, none⟩) kB_lt).trans kB_1, (hX7.cell (p := ⟨bB, oB + k * 5 + 1 + j.toNat, none⟩) hltB2).trans yj, hX7⟩
  clear hK K
  try simp only [Act.put, List.setIfInBounds_toArray, List.set_cons_zero, List.set_cons_succ]
  clear hHeld6
  refine wpAnyH_take (i := 32) (oi := { dst := some 115, op := Op.binOp BinOp.eql 3 (Operand.tmp 112) (Operand.tmp 114) 3, type := 4, pos := "more.go:41", after := _, guard := some (27, true) }) (v := ?v32) rfl (by kernel_rfl) (by kernel_rfl) (by kernel_rfl) (fun _ _ _ h => h) (Or.inl ⟨by rfl, ?hy32⟩) (by assumption) ?rest32
  case hy32 => (intro w hSw; (try dsimp only at hSw); go_simp <;> with_reducible rfl)
  try simp only [Act.put, List.setIfInBounds_toArray, List.set_cons_zero, List.set_cons_succ]
  refine wpAnyH_take (i := 33) (oi := { dst := some 116, op := Op.pick (Operand.tmp 110) (Operand.tmp 115) (Operand.const (Value.bool false)), type := 4, pos := "more.go:41", after := _, guard := none }) (v := ?v33) rfl (by kernel_rfl) (by kernel_rfl) (by kernel_rfl) (fun _ _ _ h => h) (Or.inl ⟨by rfl, ?hy33⟩) (by assumption) ?rest33
  case hy33 => (intro w hSw; (try dsimp only at hSw); go_simp <;> with_reducible rfl)
  try simp only [Act.put, List.setIfInBounds_toArray, List.set_cons_zero, List.set_cons_succ]
  refine wpAnyH_ready (rs := [34]) (by kernel_rfl) (by simp) ?_
  refine AllReadyH.cons (o := { dst := some 12, op := Op.assign (Operand.tmp 116), type := 4, pos := "more.go:41", after := _, guard := none }) rfl (fun K hK => ?_) AllReadyH.nil
  go_simp
  refine hK.out _ _ ?_ (fun hHeldL => ?_)
  · exact ⟨(hX7.cell (p := ⟨w.heap.size, 0, none⟩) kS_lt).trans kS_0, (hX7.cell (p := ⟨w.heap.size, 1, none⟩) kS_lt).trans kS_1, (hX7.cell (p := ⟨w3.heap.size, 0, none⟩) kA_lt).trans kA_0, (hX7.cell (p := ⟨w3.heap.size, 1, none⟩) kA_lt).trans kA_1, (hX7.cell (p := ⟨w4.heap.size, 0, none⟩) kB_lt).trans kB_0, (hX7.cell (p := ⟨w4.heap.size, 1, none⟩) kB_lt).trans kB_1, (hX7.cell (p := ⟨bB, oB + k * 5 + 1 + j.toNat, none⟩) hltB2).trans yj, hX7⟩
  clear hK K
  try simp only [Act.put, List.setIfInBounds_toArray, List.set_cons_zero, List.set_cons_succ]
  refine wpAnyH_done (by kernel_rfl) ?_ _
  have hYL := hY5.trans (hX7.mono hY5.size)
  go_wp2
  go_ret
  exact ⟨rfl, hYL⟩

end Go.Proofs.Ytelfkopoppfaaaa
