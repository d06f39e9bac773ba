/- The walk of LockSees. -/
import Derived.Test.YtkmdifngljdpeaaLkPlain
import Derived.Test.YtkmdifngljdpeaaLkOpen
namespace Go.Proofs.Ytkmdifngljdpeaa
open Go Go.RowKit
set_option linter.unusedVariables false

set_option maxRecDepth 100000 in
set_option maxHeartbeats 4000000 in
theorem sees_long (w : World) (A0 : Option Addr) (c0 : Nat) (now mx : Int) (ls : List Lk) (hst0 : LkV w (.agg #[.int .i64 now, .int .i64 mx, .slice A0 ls.length c0]) now mx ls) (i ver later who other : Int) (h30 : 30 < ls.length) :
    Calls Try.prog 7 #[.agg #[.int .i64 now, .int .i64 mx, .slice A0 ls.length c0], .int .i64 i, .int .i64 ver, .int .i64 later, .int .i64 who, .int .i64 other] w fun e w' => e = .returned (.bool true) ∧ Below w.heap.size w w' := by
  have h30' : (30 : Int) < (ls.length : Int) := by omega
  go_enter Try.func7, Try.ntmps7
  have hA0 := ((Below.refl w.heap.size w).alloc (Nat.le_refl _) (.cells #[.int .i64 now, .int .i64 mx, .slice A0 ls.length c0] 24))
  replace hst0 := hst0.keep hA0
  have kC := Blk.new_ w 24 #[.int .i64 now, .int .i64 mx, .slice A0 ls.length c0] (w.heap.size) (by simp)
  have hZ0 : Below w.heap.size w _ := hA0
  go_wp2_with fail
  refine (awake_any _).mono ?_
  rintro e w1 ⟨rfl, hb1⟩
  obtain ⟨hc1, hf1⟩ := bcell hb1
  have hz1 := hb1.size
  simp at hz1
  replace hst0 := hst0.keep hb1
  replace kC := kC.keep hb1
  have hY1 := hZ0.trans (hb1.mono hZ0.size)
  have zkC_1 : w.heap.size < w1.heap.size := by omega
  go_wp2
  go_ret
  exact ⟨rfl, hY1⟩

set_option maxRecDepth 100000 in
set_option maxHeartbeats 4000000 in
theorem sees_less (w : World) (A0 : Option Addr) (c0 : Nat) (now mx : Int) (ls : List Lk) (hst0 : LkV w (.agg #[.int .i64 now, .int .i64 mx, .slice A0 ls.length c0]) now mx ls) (i ver later who other : Int) (h30 : ls.length ≤ 30) (hl : later < ver) :
    Calls Try.prog 7 #[.agg #[.int .i64 now, .int .i64 mx, .slice A0 ls.length c0], .int .i64 i, .int .i64 ver, .int .i64 later, .int .i64 who, .int .i64 other] w fun e w' => e = .returned (.bool true) ∧ Below w.heap.size w w' := by
  have h30' : ¬ (30 : Int) < (ls.length : Int) := by omega
  go_enter Try.func7, Try.ntmps7
  have hA0 := ((Below.refl w.heap.size w).alloc (Nat.le_refl _) (.cells #[.int .i64 now, .int .i64 mx, .slice A0 ls.length c0] 24))
  replace hst0 := hst0.keep hA0
  have kC := Blk.new_ w 24 #[.int .i64 now, .int .i64 mx, .slice A0 ls.length c0] (w.heap.size) (by simp)
  have hZ0 : Below w.heap.size w _ := hA0
  go_wp2_with fail
  refine (awake_any _).mono ?_
  rintro e w1 ⟨rfl, hb1⟩
  obtain ⟨hc1, hf1⟩ := bcell hb1
  have hz1 := hb1.size
  simp at hz1
  replace hst0 := hst0.keep hb1
  replace kC := kC.keep hb1
  have hY1 := hZ0.trans (hb1.mono hZ0.size)
  have zkC_1 : w.heap.size < w1.heap.size := by omega
  go_wp2
  go_ret
  exact ⟨rfl, hY1⟩

set_option maxRecDepth 100000 in
set_option maxHeartbeats 4000000 in
theorem sees_neg (w : World) (A0 : Option Addr) (c0 : Nat) (now mx : Int) (ls : List Lk) (hst0 : LkV w (.agg #[.int .i64 now, .int .i64 mx, .slice A0 ls.length c0]) now mx ls) (i ver later who other : Int) (h30 : ls.length ≤ 30) (hl : ¬ later < ver) (h3 : seesL now mx ls i ver other = false) (h1 : seesL now mx ls i ver who = false) (hi : i < 0) :
    Calls Try.prog 7 #[.agg #[.int .i64 now, .int .i64 mx, .slice A0 ls.length c0], .int .i64 i, .int .i64 ver, .int .i64 later, .int .i64 who, .int .i64 other] w fun e w' => e = .returned (.bool true) ∧ Below w.heap.size w w' := by
  have h30' : ¬ (30 : Int) < (ls.length : Int) := by omega
  have t1 := fun v W hs => Sees_any v now mx i ver who ls W hs
  rw [h1] at t1
  have t3 := fun v W hs => Sees_any v now mx i ver other ls W hs
  rw [h3] at t3
  clear h1 h3
  go_enter Try.func7, Try.ntmps7
  have hA0 := ((Below.refl w.heap.size w).alloc (Nat.le_refl _) (.cells #[.int .i64 now, .int .i64 mx, .slice A0 ls.length c0] 24))
  replace hst0 := hst0.keep hA0
  have kC := Blk.new_ w 24 #[.int .i64 now, .int .i64 mx, .slice A0 ls.length c0] (w.heap.size) (by simp)
  have hZ0 : Below w.heap.size w _ := hA0
  go_wp2_with fail
  refine (awake_any _).mono ?_
  rintro e w1 ⟨rfl, hb1⟩
  obtain ⟨hc1, hf1⟩ := bcell hb1
  have hz1 := hb1.size
  simp at hz1
  replace hst0 := hst0.keep hb1
  replace kC := kC.keep hb1
  have hY1 := hZ0.trans (hb1.mono hZ0.size)
  have zkC_1 : w.heap.size < w1.heap.size := by omega
  have hZ1 : Below w.heap.size w w1 := hY1
  go_wp2_with fail
  refine (t1 _ _ hst0).mono ?_
  rintro e w2 ⟨rfl, hb2⟩
  obtain ⟨hc2, hf2⟩ := bcell hb2
  have hz2 := hb2.size
  replace hst0 := hst0.keep hb2
  replace kC := kC.keep hb2
  have hY2 := hZ1.trans (hb2.mono hZ1.size)
  have zkC_2 : w.heap.size < w2.heap.size := by omega
  go_wp2_with fail
  have BW := (Below.refl w2.heap.size w2).drew
  have cC_lt := kC.lt
  have cC_0 : w2.cell? ⟨w.heap.size, 0, none⟩ = some (.int .i64 now) := by rw [kC.cell]; rfl
  have cC_1 : w2.cell? ⟨w.heap.size, 1, none⟩ = some (.int .i64 mx) := by rw [kC.cell]; rfl
  have cC_2 : w2.cell? ⟨w.heap.size, 2, none⟩ = some (.slice A0 ls.length c0) := by rw [kC.cell]; rfl
  refine wp_region_held_drew (S := fun w' => w'.cell? ⟨w.heap.size, 0, none⟩ = some (.int .i64 now) ∧ w'.cell? ⟨w.heap.size, 1, none⟩ = some (.int .i64 mx) ∧ w'.cell? ⟨w.heap.size, 2, none⟩ = some (.slice A0 ls.length c0)) (by kernel_rfl) ?_ (fun hHeldbr => ?_)
  · exact ⟨(BW.cell (p := ⟨w.heap.size, 0, none⟩) cC_lt).trans cC_0, (BW.cell (p := ⟨w.heap.size, 1, none⟩) cC_lt).trans cC_1, (BW.cell (p := ⟨w.heap.size, 2, none⟩) cC_lt).trans cC_2⟩
  refine wpAnyH_take (i := 0) (oi := { dst := some 61, op := Op.move (Operand.tmp 14), type := 4, pos := "law.go:109", after := _, guard := none }) (v := ?vbr0) rfl (by kernel_rfl) (by kernel_rfl) (by kernel_rfl) (fun _ _ _ h => h) (Or.inl ⟨by rfl, ?hybr0⟩) (by assumption) ?restbr0
  case hybr0 => (intro w hSw; (try dsimp only at hSw); go_simp <;> with_reducible rfl)
  try simp only [Act.put, List.setIfInBounds_toArray, List.set_cons_zero, List.set_cons_succ]
  refine wpAnyH_take (i := 1) (oi := { dst := some 62, op := Op.move (Operand.tmp 61), type := 4, pos := "law.go:109", after := _, guard := none }) (v := ?vbr1) rfl (by kernel_rfl) (by kernel_rfl) (by kernel_rfl) (fun _ _ _ h => h) (Or.inl ⟨by rfl, ?hybr1⟩) (by assumption) ?restbr1
  case hybr1 => (intro w hSw; (try dsimp only at hSw); go_simp <;> with_reducible rfl)
  try simp only [Act.put, List.setIfInBounds_toArray, List.set_cons_zero, List.set_cons_succ]
  refine wpAnyH_take (i := 2) (oi := { dst := some 63, op := Op.load 24 (Operand.tmp 6), type := 24, pos := "law.go:109", after := _, guard := some (1, false) }) (v := ?vbr2) rfl (by kernel_rfl) (by kernel_rfl) (by kernel_rfl) (fun _ _ _ h => h) (Or.inl ⟨by rfl, ?hybr2⟩) (by assumption) ?restbr2
  case hybr2 => (intro w hSw; (try dsimp only at hSw); go_simp <;> with_reducible rfl)
  try simp only [Act.put, List.setIfInBounds_toArray, List.set_cons_zero, List.set_cons_succ]
  refine wpAnyH_take (i := 3) (oi := { dst := some 64, op := Op.move (Operand.tmp 1), type := 3, pos := "law.go:109", after := _, guard := some (1, false) }) (v := ?vbr3) rfl (by kernel_rfl) (by kernel_rfl) (by kernel_rfl) (fun _ _ _ h => h) (Or.inl ⟨by rfl, ?hybr3⟩) (by assumption) ?restbr3
  case hybr3 => (intro w hSw; (try dsimp only at hSw); go_simp <;> with_reducible rfl)
  try simp only [Act.put, List.setIfInBounds_toArray, List.set_cons_zero, List.set_cons_succ]
  refine wpAnyH_take (i := 4) (oi := { dst := some 65, op := Op.move (Operand.tmp 2), type := 3, pos := "law.go:109", after := _, guard := some (1, false) }) (v := ?vbr4) rfl (by kernel_rfl) (by kernel_rfl) (by kernel_rfl) (fun _ _ _ h => h) (Or.inl ⟨by rfl, ?hybr4⟩) (by assumption) ?restbr4
  case hybr4 => (intro w hSw; (try dsimp only at hSw); go_simp <;> with_reducible rfl)
  try simp only [Act.put, List.setIfInBounds_toArray, List.set_cons_zero, List.set_cons_succ]
  refine wpAnyH_take (i := 5) (oi := { dst := some 66, op := Op.move (Operand.tmp 4), type := 3, pos := "law.go:109", after := _, guard := some (1, false) }) (v := ?vbr5) rfl (by kernel_rfl) (by kernel_rfl) (by kernel_rfl) (fun _ _ _ h => h) (Or.inl ⟨by rfl, ?hybr5⟩) (by assumption) ?restbr5
  case hybr5 => (intro w hSw; (try dsimp only at hSw); go_simp <;> with_reducible rfl)
  try simp only [Act.put, List.setIfInBounds_toArray, List.set_cons_zero, List.set_cons_succ]
  refine wpAnyH_take (i := 7) (oi := { dst := some 68, op := Op.load 24 (Operand.tmp 6), type := 24, pos := "law.go:109", after := _, guard := some (1, false) }) (v := ?vbr7) rfl (by kernel_rfl) (by kernel_rfl) (by kernel_rfl) (fun _ _ _ h => h) (Or.inl ⟨by rfl, ?hybr7⟩) (by assumption) ?restbr7
  case hybr7 => (intro w hSw; (try dsimp only at hSw); go_simp <;> with_reducible rfl)
  try simp only [Act.put, List.setIfInBounds_toArray, List.set_cons_zero, List.set_cons_succ]
  refine wpAnyH_take (i := 8) (oi := { dst := some 69, op := Op.move (Operand.tmp 1), type := 3, pos := "law.go:109", after := _, guard := some (1, false) }) (v := ?vbr8) rfl (by kernel_rfl) (by kernel_rfl) (by kernel_rfl) (fun _ _ _ h => h) (Or.inl ⟨by rfl, ?hybr8⟩) (by assumption) ?restbr8
  case hybr8 => (intro w hSw; (try dsimp only at hSw); go_simp <;> with_reducible rfl)
  try simp only [Act.put, List.setIfInBounds_toArray, List.set_cons_zero, List.set_cons_succ]
  refine wpAnyH_take (i := 9) (oi := { dst := some 70, op := Op.move (Operand.tmp 2), type := 3, pos := "law.go:109", after := _, guard := some (1, false) }) (v := ?vbr9) rfl (by kernel_rfl) (by kernel_rfl) (by kernel_rfl) (fun _ _ _ h => h) (Or.inl ⟨by rfl, ?hybr9⟩) (by assumption) ?restbr9
  case hybr9 => (intro w hSw; (try dsimp only at hSw); go_simp <;> with_reducible rfl)
  try simp only [Act.put, List.setIfInBounds_toArray, List.set_cons_zero, List.set_cons_succ]
  refine wpAnyH_take (i := 10) (oi := { dst := some 71, op := Op.move (Operand.tmp 5), type := 3, pos := "law.go:109", after := _, guard := some (1, false) }) (v := ?vbr10) rfl (by kernel_rfl) (by kernel_rfl) (by kernel_rfl) (fun _ _ _ h => h) (Or.inl ⟨by rfl, ?hybr10⟩) (by assumption) ?restbr10
  case hybr10 => (intro w hSw; (try dsimp only at hSw); go_simp <;> with_reducible rfl)
  try simp only [Act.put, List.setIfInBounds_toArray, List.set_cons_zero, List.set_cons_succ]
  refine wpAnyH_ready (rs := [6]) (by kernel_rfl) (by simp) ?_
  refine AllReadyH.cons (o := { dst := some 67, op := Op.call { callee := Callee.value (Operand.func 24), args := #[Operand.tmp 63, Operand.tmp 64, Operand.tmp 65, Operand.tmp 66], argTypes := #[24, 3, 3, 3] }, type := 4, pos := "law.go:109", after := _, guard := some (1, false) }) rfl (fun K hK => ?_) AllReadyH.nil
  go_simp
  refine (t1 _ _ (hst0.keep BW)).mono ?_
  rintro e x1 ⟨rfl, hx1⟩
  have BX := BW.trans (hx1.mono BW.size)
  try go_wp2_with fail
  refine hK.out _ _ ?_ (fun hHeldbr6 => ?_)
  · exact ⟨(BX.cell (p := ⟨w.heap.size, 0, none⟩) cC_lt).trans cC_0, (BX.cell (p := ⟨w.heap.size, 1, none⟩) cC_lt).trans cC_1, (BX.cell (p := ⟨w.heap.size, 2, none⟩) cC_lt).trans cC_2⟩
  clear hK K hHeldbr
  try simp only [Act.put, List.setIfInBounds_toArray, List.set_cons_zero, List.set_cons_succ]
  refine wpAnyH_ready (rs := [11]) (by kernel_rfl) (by simp) ?_
  refine AllReadyH.cons (o := { dst := some 72, op := Op.call { callee := Callee.value (Operand.func 24), args := #[Operand.tmp 68, Operand.tmp 69, Operand.tmp 70, Operand.tmp 71], argTypes := #[24, 3, 3, 3] }, type := 4, pos := "law.go:109", after := _, guard := some (1, false) }) rfl (fun K hK => ?_) AllReadyH.nil
  go_simp
  refine (t3 _ _ (hst0.keep BX)).mono ?_
  rintro e x2 ⟨rfl, hx2⟩
  have BZ := BX.trans (hx2.mono BX.size)
  try go_wp2_with fail
  refine hK.out _ _ ?_ (fun hHeldbr11 => ?_)
  · exact ⟨(BZ.cell (p := ⟨w.heap.size, 0, none⟩) cC_lt).trans cC_0, (BZ.cell (p := ⟨w.heap.size, 1, none⟩) cC_lt).trans cC_1, (BZ.cell (p := ⟨w.heap.size, 2, none⟩) cC_lt).trans cC_2⟩
  clear hK K hHeldbr6
  try simp only [Act.put, List.setIfInBounds_toArray, List.set_cons_zero, List.set_cons_succ]
  refine wpAnyH_take (i := 12) (oi := { dst := some 73, op := Op.binOp BinOp.eql 4 (Operand.tmp 67) (Operand.tmp 72) 4, type := 4, pos := "law.go:109", after := _, guard := some (1, false) }) (v := ?vbr12) rfl (by kernel_rfl) (by kernel_rfl) (by kernel_rfl) (fun _ _ _ h => h) (Or.inl ⟨by rfl, ?hybr12⟩) (by assumption) ?restbr12
  case hybr12 => (intro w hSw; (try dsimp only at hSw); go_simp <;> with_reducible rfl)
  try simp only [Act.put, List.setIfInBounds_toArray, List.set_cons_zero, List.set_cons_succ]
  refine wpAnyH_take (i := 13) (oi := { dst := some 74, op := Op.pick (Operand.tmp 62) (Operand.const (Value.bool true)) (Operand.tmp 73), type := 4, pos := "law.go:109", after := _, guard := none }) (v := ?vbr13) rfl (by kernel_rfl) (by kernel_rfl) (by kernel_rfl) (fun _ _ _ h => h) (Or.inl ⟨by rfl, ?hybr13⟩) (by assumption) ?restbr13
  case hybr13 => (intro w hSw; (try dsimp only at hSw); go_simp <;> with_reducible rfl)
  try simp only [Act.put, List.setIfInBounds_toArray, List.set_cons_zero, List.set_cons_succ]
  refine wpAnyH_ready (rs := [14]) (by kernel_rfl) (by simp) ?_
  refine AllReadyH.cons (o := { dst := some 12, op := Op.assign (Operand.tmp 74), type := 4, pos := "law.go:109", after := _, guard := none }) rfl (fun K hK => ?_) AllReadyH.nil
  go_simp
  skip
  refine hK.out _ _ ?_ (fun hHeldbr14 => ?_)
  · exact ⟨(BZ.cell (p := ⟨w.heap.size, 0, none⟩) cC_lt).trans cC_0, (BZ.cell (p := ⟨w.heap.size, 1, none⟩) cC_lt).trans cC_1, (BZ.cell (p := ⟨w.heap.size, 2, none⟩) cC_lt).trans cC_2⟩
  clear hK K hHeldbr11
  try simp only [Act.put, List.setIfInBounds_toArray, List.set_cons_zero, List.set_cons_succ]
  refine wpAnyH_done (by kernel_rfl) ?_ _
  have hYL := hY2.trans (BZ.mono hY2.size)
  go_wp2
  go_ret
  exact ⟨rfl, hYL⟩

set_option maxRecDepth 100000 in
set_option maxHeartbeats 4000000 in
theorem sees_big (w : World) (A0 : Option Addr) (c0 : Nat) (now mx : Int) (ls : List Lk) (hst0 : LkV w (.agg #[.int .i64 now, .int .i64 mx, .slice A0 ls.length c0]) now mx ls) (i ver later who other : Int) (h30 : ls.length ≤ 30) (hl : ¬ later < ver) (h3 : seesL now mx ls i ver other = false) (h1 : seesL now mx ls i ver who = false) (hi : ¬ i < 0) (hi2 : (ls.length : Int) ≤ i) :
    Calls Try.prog 7 #[.agg #[.int .i64 now, .int .i64 mx, .slice A0 ls.length c0], .int .i64 i, .int .i64 ver, .int .i64 later, .int .i64 who, .int .i64 other] w fun e w' => e = .returned (.bool true) ∧ Below w.heap.size w w' := by
  have h30' : ¬ (30 : Int) < (ls.length : Int) := by omega
  have t1 := fun v W hs => Sees_any v now mx i ver who ls W hs
  rw [h1] at t1
  have t3 := fun v W hs => Sees_any v now mx i ver other ls W hs
  rw [h3] at t3
  clear h1 h3
  go_enter Try.func7, Try.ntmps7
  have hA0 := ((Below.refl w.heap.size w).alloc (Nat.le_refl _) (.cells #[.int .i64 now, .int .i64 mx, .slice A0 ls.length c0] 24))
  replace hst0 := hst0.keep hA0
  have kC := Blk.new_ w 24 #[.int .i64 now, .int .i64 mx, .slice A0 ls.length c0] (w.heap.size) (by simp)
  have hZ0 : Below w.heap.size w _ := hA0
  go_wp2_with fail
  refine (awake_any _).mono ?_
  rintro e w1 ⟨rfl, hb1⟩
  obtain ⟨hc1, hf1⟩ := bcell hb1
  have hz1 := hb1.size
  simp at hz1
  replace hst0 := hst0.keep hb1
  replace kC := kC.keep hb1
  have hY1 := hZ0.trans (hb1.mono hZ0.size)
  have zkC_1 : w.heap.size < w1.heap.size := by omega
  have hZ1 : Below w.heap.size w w1 := hY1
  go_wp2_with fail
  refine (t1 _ _ hst0).mono ?_
  rintro e w2 ⟨rfl, hb2⟩
  obtain ⟨hc2, hf2⟩ := bcell hb2
  have hz2 := hb2.size
  replace hst0 := hst0.keep hb2
  replace kC := kC.keep hb2
  have hY2 := hZ1.trans (hb2.mono hZ1.size)
  have zkC_2 : w.heap.size < w2.heap.size := by omega
  go_wp2_with fail
  have BW := (Below.refl w2.heap.size w2).drew
  have cC_lt := kC.lt
  have cC_0 : w2.cell? ⟨w.heap.size, 0, none⟩ = some (.int .i64 now) := by rw [kC.cell]; rfl
  have cC_1 : w2.cell? ⟨w.heap.size, 1, none⟩ = some (.int .i64 mx) := by rw [kC.cell]; rfl
  have cC_2 : w2.cell? ⟨w.heap.size, 2, none⟩ = some (.slice A0 ls.length c0) := by rw [kC.cell]; rfl
  refine wp_region_held_drew (S := fun w' => w'.cell? ⟨w.heap.size, 0, none⟩ = some (.int .i64 now) ∧ w'.cell? ⟨w.heap.size, 1, none⟩ = some (.int .i64 mx) ∧ w'.cell? ⟨w.heap.size, 2, none⟩ = some (.slice A0 ls.length c0)) (by kernel_rfl) ?_ (fun hHeldcr => ?_)
  · exact ⟨(BW.cell (p := ⟨w.heap.size, 0, none⟩) cC_lt).trans cC_0, (BW.cell (p := ⟨w.heap.size, 1, none⟩) cC_lt).trans cC_1, (BW.cell (p := ⟨w.heap.size, 2, none⟩) cC_lt).trans cC_2⟩
  refine wpAnyH_take (i := 0) (oi := { dst := some 61, op := Op.move (Operand.tmp 14), type := 4, pos := "law.go:109", after := _, guard := none }) (v := ?vcr0) rfl (by kernel_rfl) (by kernel_rfl) (by kernel_rfl) (fun _ _ _ h => h) (Or.inl ⟨by rfl, ?hycr0⟩) (by assumption) ?restcr0
  case hycr0 => (intro w hSw; (try dsimp only at hSw); go_simp <;> with_reducible rfl)
  try simp only [Act.put, List.setIfInBounds_toArray, List.set_cons_zero, List.set_cons_succ]
  refine wpAnyH_take (i := 1) (oi := { dst := some 62, op := Op.move (Operand.tmp 61), type := 4, pos := "law.go:109", after := _, guard := none }) (v := ?vcr1) rfl (by kernel_rfl) (by kernel_rfl) (by kernel_rfl) (fun _ _ _ h => h) (Or.inl ⟨by rfl, ?hycr1⟩) (by assumption) ?restcr1
  case hycr1 => (intro w hSw; (try dsimp only at hSw); go_simp <;> with_reducible rfl)
  try simp only [Act.put, List.setIfInBounds_toArray, List.set_cons_zero, List.set_cons_succ]
  refine wpAnyH_take (i := 2) (oi := { dst := some 63, op := Op.load 24 (Operand.tmp 6), type := 24, pos := "law.go:109", after := _, guard := some (1, false) }) (v := ?vcr2) rfl (by kernel_rfl) (by kernel_rfl) (by kernel_rfl) (fun _ _ _ h => h) (Or.inl ⟨by rfl, ?hycr2⟩) (by assumption) ?restcr2
  case hycr2 => (intro w hSw; (try dsimp only at hSw); go_simp <;> with_reducible rfl)
  try simp only [Act.put, List.setIfInBounds_toArray, List.set_cons_zero, List.set_cons_succ]
  refine wpAnyH_take (i := 3) (oi := { dst := some 64, op := Op.move (Operand.tmp 1), type := 3, pos := "law.go:109", after := _, guard := some (1, false) }) (v := ?vcr3) rfl (by kernel_rfl) (by kernel_rfl) (by kernel_rfl) (fun _ _ _ h => h) (Or.inl ⟨by rfl, ?hycr3⟩) (by assumption) ?restcr3
  case hycr3 => (intro w hSw; (try dsimp only at hSw); go_simp <;> with_reducible rfl)
  try simp only [Act.put, List.setIfInBounds_toArray, List.set_cons_zero, List.set_cons_succ]
  refine wpAnyH_take (i := 4) (oi := { dst := some 65, op := Op.move (Operand.tmp 2), type := 3, pos := "law.go:109", after := _, guard := some (1, false) }) (v := ?vcr4) rfl (by kernel_rfl) (by kernel_rfl) (by kernel_rfl) (fun _ _ _ h => h) (Or.inl ⟨by rfl, ?hycr4⟩) (by assumption) ?restcr4
  case hycr4 => (intro w hSw; (try dsimp only at hSw); go_simp <;> with_reducible rfl)
  try simp only [Act.put, List.setIfInBounds_toArray, List.set_cons_zero, List.set_cons_succ]
  refine wpAnyH_take (i := 5) (oi := { dst := some 66, op := Op.move (Operand.tmp 4), type := 3, pos := "law.go:109", after := _, guard := some (1, false) }) (v := ?vcr5) rfl (by kernel_rfl) (by kernel_rfl) (by kernel_rfl) (fun _ _ _ h => h) (Or.inl ⟨by rfl, ?hycr5⟩) (by assumption) ?restcr5
  case hycr5 => (intro w hSw; (try dsimp only at hSw); go_simp <;> with_reducible rfl)
  try simp only [Act.put, List.setIfInBounds_toArray, List.set_cons_zero, List.set_cons_succ]
  refine wpAnyH_take (i := 7) (oi := { dst := some 68, op := Op.load 24 (Operand.tmp 6), type := 24, pos := "law.go:109", after := _, guard := some (1, false) }) (v := ?vcr7) rfl (by kernel_rfl) (by kernel_rfl) (by kernel_rfl) (fun _ _ _ h => h) (Or.inl ⟨by rfl, ?hycr7⟩) (by assumption) ?restcr7
  case hycr7 => (intro w hSw; (try dsimp only at hSw); go_simp <;> with_reducible rfl)
  try simp only [Act.put, List.setIfInBounds_toArray, List.set_cons_zero, List.set_cons_succ]
  refine wpAnyH_take (i := 8) (oi := { dst := some 69, op := Op.move (Operand.tmp 1), type := 3, pos := "law.go:109", after := _, guard := some (1, false) }) (v := ?vcr8) rfl (by kernel_rfl) (by kernel_rfl) (by kernel_rfl) (fun _ _ _ h => h) (Or.inl ⟨by rfl, ?hycr8⟩) (by assumption) ?restcr8
  case hycr8 => (intro w hSw; (try dsimp only at hSw); go_simp <;> with_reducible rfl)
  try simp only [Act.put, List.setIfInBounds_toArray, List.set_cons_zero, List.set_cons_succ]
  refine wpAnyH_take (i := 9) (oi := { dst := some 70, op := Op.move (Operand.tmp 2), type := 3, pos := "law.go:109", after := _, guard := some (1, false) }) (v := ?vcr9) rfl (by kernel_rfl) (by kernel_rfl) (by kernel_rfl) (fun _ _ _ h => h) (Or.inl ⟨by rfl, ?hycr9⟩) (by assumption) ?restcr9
  case hycr9 => (intro w hSw; (try dsimp only at hSw); go_simp <;> with_reducible rfl)
  try simp only [Act.put, List.setIfInBounds_toArray, List.set_cons_zero, List.set_cons_succ]
  refine wpAnyH_take (i := 10) (oi := { dst := some 71, op := Op.move (Operand.tmp 5), type := 3, pos := "law.go:109", after := _, guard := some (1, false) }) (v := ?vcr10) rfl (by kernel_rfl) (by kernel_rfl) (by kernel_rfl) (fun _ _ _ h => h) (Or.inl ⟨by rfl, ?hycr10⟩) (by assumption) ?restcr10
  case hycr10 => (intro w hSw; (try dsimp only at hSw); go_simp <;> with_reducible rfl)
  try simp only [Act.put, List.setIfInBounds_toArray, List.set_cons_zero, List.set_cons_succ]
  refine wpAnyH_ready (rs := [6]) (by kernel_rfl) (by simp) ?_
  refine AllReadyH.cons (o := { dst := some 67, op := Op.call { callee := Callee.value (Operand.func 24), args := #[Operand.tmp 63, Operand.tmp 64, Operand.tmp 65, Operand.tmp 66], argTypes := #[24, 3, 3, 3] }, type := 4, pos := "law.go:109", after := _, guard := some (1, false) }) rfl (fun K hK => ?_) AllReadyH.nil
  go_simp
  refine (t1 _ _ (hst0.keep BW)).mono ?_
  rintro e x1 ⟨rfl, hx1⟩
  have BX := BW.trans (hx1.mono BW.size)
  try go_wp2_with fail
  refine hK.out _ _ ?_ (fun hHeldcr6 => ?_)
  · exact ⟨(BX.cell (p := ⟨w.heap.size, 0, none⟩) cC_lt).trans cC_0, (BX.cell (p := ⟨w.heap.size, 1, none⟩) cC_lt).trans cC_1, (BX.cell (p := ⟨w.heap.size, 2, none⟩) cC_lt).trans cC_2⟩
  clear hK K hHeldcr
  try simp only [Act.put, List.setIfInBounds_toArray, List.set_cons_zero, List.set_cons_succ]
  refine wpAnyH_ready (rs := [11]) (by kernel_rfl) (by simp) ?_
  refine AllReadyH.cons (o := { dst := some 72, op := Op.call { callee := Callee.value (Operand.func 24), args := #[Operand.tmp 68, Operand.tmp 69, Operand.tmp 70, Operand.tmp 71], argTypes := #[24, 3, 3, 3] }, type := 4, pos := "law.go:109", after := _, guard := some (1, false) }) rfl (fun K hK => ?_) AllReadyH.nil
  go_simp
  refine (t3 _ _ (hst0.keep BX)).mono ?_
  rintro e x2 ⟨rfl, hx2⟩
  have BZ := BX.trans (hx2.mono BX.size)
  try go_wp2_with fail
  refine hK.out _ _ ?_ (fun hHeldcr11 => ?_)
  · exact ⟨(BZ.cell (p := ⟨w.heap.size, 0, none⟩) cC_lt).trans cC_0, (BZ.cell (p := ⟨w.heap.size, 1, none⟩) cC_lt).trans cC_1, (BZ.cell (p := ⟨w.heap.size, 2, none⟩) cC_lt).trans cC_2⟩
  clear hK K hHeldcr6
  try simp only [Act.put, List.setIfInBounds_toArray, List.set_cons_zero, List.set_cons_succ]
  refine wpAnyH_take (i := 12) (oi := { dst := some 73, op := Op.binOp BinOp.eql 4 (Operand.tmp 67) (Operand.tmp 72) 4, type := 4, pos := "law.go:109", after := _, guard := some (1, false) }) (v := ?vcr12) rfl (by kernel_rfl) (by kernel_rfl) (by kernel_rfl) (fun _ _ _ h => h) (Or.inl ⟨by rfl, ?hycr12⟩) (by assumption) ?restcr12
  case hycr12 => (intro w hSw; (try dsimp only at hSw); go_simp <;> with_reducible rfl)
  try simp only [Act.put, List.setIfInBounds_toArray, List.set_cons_zero, List.set_cons_succ]
  refine wpAnyH_take (i := 13) (oi := { dst := some 74, op := Op.pick (Operand.tmp 62) (Operand.const (Value.bool true)) (Operand.tmp 73), type := 4, pos := "law.go:109", after := _, guard := none }) (v := ?vcr13) rfl (by kernel_rfl) (by kernel_rfl) (by kernel_rfl) (fun _ _ _ h => h) (Or.inl ⟨by rfl, ?hycr13⟩) (by assumption) ?restcr13
  case hycr13 => (intro w hSw; (try dsimp only at hSw); go_simp <;> with_reducible rfl)
  try simp only [Act.put, List.setIfInBounds_toArray, List.set_cons_zero, List.set_cons_succ]
  refine wpAnyH_ready (rs := [14]) (by kernel_rfl) (by simp) ?_
  refine AllReadyH.cons (o := { dst := some 12, op := Op.assign (Operand.tmp 74), type := 4, pos := "law.go:109", after := _, guard := none }) rfl (fun K hK => ?_) AllReadyH.nil
  go_simp
  skip
  refine hK.out _ _ ?_ (fun hHeldcr14 => ?_)
  · exact ⟨(BZ.cell (p := ⟨w.heap.size, 0, none⟩) cC_lt).trans cC_0, (BZ.cell (p := ⟨w.heap.size, 1, none⟩) cC_lt).trans cC_1, (BZ.cell (p := ⟨w.heap.size, 2, none⟩) cC_lt).trans cC_2⟩
  clear hK K hHeldcr11
  try simp only [Act.put, List.setIfInBounds_toArray, List.set_cons_zero, List.set_cons_succ]
  refine wpAnyH_done (by kernel_rfl) ?_ _
  have hYL := hY2.trans (BZ.mono hY2.size)
  go_wp2
  go_ret
  exact ⟨rfl, hYL⟩

set_option maxRecDepth 100000 in
set_option maxHeartbeats 4000000 in
theorem sees_held_x (w : World) (A0 : Option Addr) (c0 : Nat) (now mx : Int) (ls : List Lk) (hst0 : LkV w (.agg #[.int .i64 now, .int .i64 mx, .slice A0 ls.length c0]) now mx ls) (k : Nat) (ver later who other : Int) (x : Lk) (h30 : ls.length ≤ 30) (hl : ¬ later < ver) (hk : k < ls.length) (hx : ls[k] = x) (ho : (x.o != -1) = true) (h1 : seesL now mx ls k ver who = true) (h2 : seesL now mx ls k later who = true)  :
    Calls Try.prog 7 #[.agg #[.int .i64 now, .int .i64 mx, .slice A0 ls.length c0], .int .i64 (k : Int), .int .i64 ver, .int .i64 later, .int .i64 who, .int .i64 other] w fun e w' => e = .returned (.bool true) ∧ Below w.heap.size w w' := by
  have hk0 : (0 : Int) ≤ (k : Int) := by omega
  have hk1 : (k : Int) < (ls.length : Int) := by omega
  have h30' : ¬ (30 : Int) < (ls.length : Int) := by omega
  have t1 := fun v W hs => Sees_any v now mx k ver who ls W hs
  rw [h1] at t1
  have t2 := fun v W hs => Sees_any v now mx k later who ls W hs
  rw [h2] at t2
  clear h1 h2
  go_enter Try.func7, Try.ntmps7
  have hA0 := ((Below.refl w.heap.size w).alloc (Nat.le_refl _) (.cells #[.int .i64 now, .int .i64 mx, .slice A0 ls.length c0] 24))
  replace hst0 := hst0.keep hA0
  have kC := Blk.new_ w 24 #[.int .i64 now, .int .i64 mx, .slice A0 ls.length c0] (w.heap.size) (by simp)
  have hZ0 : Below w.heap.size w _ := hA0
  go_wp2_with fail
  refine (awake_any _).mono ?_
  rintro e w1 ⟨rfl, hb1⟩
  obtain ⟨hc1, hf1⟩ := bcell hb1
  have hz1 := hb1.size
  simp at hz1
  replace hst0 := hst0.keep hb1
  replace kC := kC.keep hb1
  have hY1 := hZ0.trans (hb1.mono hZ0.size)
  have zkC_1 : w.heap.size < w1.heap.size := by omega
  have hZ1 : Below w.heap.size w w1 := hY1
  go_wp2_with fail
  refine (t1 _ _ hst0).mono ?_
  rintro e w2 ⟨rfl, hb2⟩
  obtain ⟨hc2, hf2⟩ := bcell hb2
  have hz2 := hb2.size
  replace hst0 := hst0.keep hb2
  replace kC := kC.keep hb2
  have hY2 := hZ1.trans (hb2.mono hZ1.size)
  have zkC_2 : w.heap.size < w2.heap.size := by omega
  have hZ2 : Below w.heap.size w w2 := hY2
  go_wp2_with fail
  refine (t2 _ _ hst0).mono ?_
  rintro e w3 ⟨rfl, hb3⟩
  obtain ⟨hc3, hf3⟩ := bcell hb3
  have hz3 := hb3.size
  replace hst0 := hst0.keep hb3
  replace kC := kC.keep hb3
  have hY3 := hZ2.trans (hb3.mono hZ2.size)
  have zkC_3 : w.heap.size < w3.heap.size := by omega
  obtain ⟨b0, o0, rfl, hlt0, hel0⟩ := Sl.pos encL encL_len hst0.sl (by omega)
  have e00 := hel0 w3 (Below.refl _ _) k hk 0 _ rfl
  rw [hx] at e00
  have e01 := hel0 w3 (Below.refl _ _) k hk 1 _ rfl
  rw [hx] at e01
  simp only [Nat.add_zero] at e00
  clear hel0
  go_wp2_with fail
  have BW := (Below.refl w3.heap.size w3).drew
  have cC_lt := kC.lt
  have cC_0 : w3.cell? ⟨w.heap.size, 0, none⟩ = some (.int .i64 now) := by rw [kC.cell]; rfl
  have cC_1 : w3.cell? ⟨w.heap.size, 1, none⟩ = some (.int .i64 mx) := by rw [kC.cell]; rfl
  have cC_2 : w3.cell? ⟨w.heap.size, 2, none⟩ = some (.slice (some ⟨b0, o0, none⟩) ls.length c0) := by rw [kC.cell]; rfl
  refine wp_region_held_drew (S := fun w' => w'.cell? ⟨w.heap.size, 0, none⟩ = some (.int .i64 now) ∧ w'.cell? ⟨w.heap.size, 1, none⟩ = some (.int .i64 mx) ∧ w'.cell? ⟨w.heap.size, 2, none⟩ = some (.slice (some ⟨b0, o0, none⟩) ls.length c0)) (by kernel_rfl) ?_ (fun hHelddr => ?_)
  · exact ⟨(BW.cell (p := ⟨w.heap.size, 0, none⟩) cC_lt).trans cC_0, (BW.cell (p := ⟨w.heap.size, 1, none⟩) cC_lt).trans cC_1, (BW.cell (p := ⟨w.heap.size, 2, none⟩) cC_lt).trans cC_2⟩
  refine wpAnyH_take (i := 0) (oi := { dst := some 61, op := Op.move (Operand.tmp 14), type := 4, pos := "law.go:109", after := _, guard := none }) (v := ?vdr0) rfl (by kernel_rfl) (by kernel_rfl) (by kernel_rfl) (fun _ _ _ h => h) (Or.inl ⟨by rfl, ?hydr0⟩) (by assumption) ?restdr0
  case hydr0 => (intro w hSw; (try dsimp only at hSw); go_simp <;> with_reducible rfl)
  try simp only [Act.put, List.setIfInBounds_toArray, List.set_cons_zero, List.set_cons_succ]
  refine wpAnyH_take (i := 1) (oi := { dst := some 62, op := Op.move (Operand.tmp 61), type := 4, pos := "law.go:109", after := _, guard := none }) (v := ?vdr1) rfl (by kernel_rfl) (by kernel_rfl) (by kernel_rfl) (fun _ _ _ h => h) (Or.inl ⟨by rfl, ?hydr1⟩) (by assumption) ?restdr1
  case hydr1 => (intro w hSw; (try dsimp only at hSw); go_simp <;> with_reducible rfl)
  try simp only [Act.put, List.setIfInBounds_toArray, List.set_cons_zero, List.set_cons_succ]
  refine wpAnyH_take (i := 2) (oi := { dst := some 63, op := Op.load 24 (Operand.tmp 6), type := 24, pos := "law.go:109", after := _, guard := some (1, false) }) rfl (by kernel_rfl) (by kernel_rfl) (by kernel_rfl) (fun _ _ _ h => h) (Or.inr ⟨by rfl, rfl⟩) (by assumption) ?_
  try simp only [Act.put, List.setIfInBounds_toArray, List.set_cons_zero, List.set_cons_succ]
  refine wpAnyH_take (i := 3) (oi := { dst := some 64, op := Op.move (Operand.tmp 1), type := 3, pos := "law.go:109", after := _, guard := some (1, false) }) rfl (by kernel_rfl) (by kernel_rfl) (by kernel_rfl) (fun _ _ _ h => h) (Or.inr ⟨by rfl, rfl⟩) (by assumption) ?_
  try simp only [Act.put, List.setIfInBounds_toArray, List.set_cons_zero, List.set_cons_succ]
  refine wpAnyH_take (i := 4) (oi := { dst := some 65, op := Op.move (Operand.tmp 2), type := 3, pos := "law.go:109", after := _, guard := some (1, false) }) rfl (by kernel_rfl) (by kernel_rfl) (by kernel_rfl) (fun _ _ _ h => h) (Or.inr ⟨by rfl, rfl⟩) (by assumption) ?_
  try simp only [Act.put, List.setIfInBounds_toArray, List.set_cons_zero, List.set_cons_succ]
  refine wpAnyH_take (i := 5) (oi := { dst := some 66, op := Op.move (Operand.tmp 4), type := 3, pos := "law.go:109", after := _, guard := some (1, false) }) rfl (by kernel_rfl) (by kernel_rfl) (by kernel_rfl) (fun _ _ _ h => h) (Or.inr ⟨by rfl, rfl⟩) (by assumption) ?_
  try simp only [Act.put, List.setIfInBounds_toArray, List.set_cons_zero, List.set_cons_succ]
  refine wpAnyH_take (i := 6) (oi := { dst := some 67, op := Op.call { callee := Callee.value (Operand.func 24), args := #[Operand.tmp 63, Operand.tmp 64, Operand.tmp 65, Operand.tmp 66], argTypes := #[24, 3, 3, 3] }, type := 4, pos := "law.go:109", after := _, guard := some (1, false) }) rfl (by kernel_rfl) (by kernel_rfl) (by kernel_rfl) (fun _ _ _ h => h) (Or.inr ⟨by rfl, rfl⟩) (by assumption) ?_
  try simp only [Act.put, List.setIfInBounds_toArray, List.set_cons_zero, List.set_cons_succ]
  refine wpAnyH_take (i := 7) (oi := { dst := some 68, op := Op.load 24 (Operand.tmp 6), type := 24, pos := "law.go:109", after := _, guard := some (1, false) }) rfl (by kernel_rfl) (by kernel_rfl) (by kernel_rfl) (fun _ _ _ h => h) (Or.inr ⟨by rfl, rfl⟩) (by assumption) ?_
  try simp only [Act.put, List.setIfInBounds_toArray, List.set_cons_zero, List.set_cons_succ]
  refine wpAnyH_take (i := 8) (oi := { dst := some 69, op := Op.move (Operand.tmp 1), type := 3, pos := "law.go:109", after := _, guard := some (1, false) }) rfl (by kernel_rfl) (by kernel_rfl) (by kernel_rfl) (fun _ _ _ h => h) (Or.inr ⟨by rfl, rfl⟩) (by assumption) ?_
  try simp only [Act.put, List.setIfInBounds_toArray, List.set_cons_zero, List.set_cons_succ]
  refine wpAnyH_take (i := 9) (oi := { dst := some 70, op := Op.move (Operand.tmp 2), type := 3, pos := "law.go:109", after := _, guard := some (1, false) }) rfl (by kernel_rfl) (by kernel_rfl) (by kernel_rfl) (fun _ _ _ h => h) (Or.inr ⟨by rfl, rfl⟩) (by assumption) ?_
  try simp only [Act.put, List.setIfInBounds_toArray, List.set_cons_zero, List.set_cons_succ]
  refine wpAnyH_take (i := 10) (oi := { dst := some 71, op := Op.move (Operand.tmp 5), type := 3, pos := "law.go:109", after := _, guard := some (1, false) }) rfl (by kernel_rfl) (by kernel_rfl) (by kernel_rfl) (fun _ _ _ h => h) (Or.inr ⟨by rfl, rfl⟩) (by assumption) ?_
  try simp only [Act.put, List.setIfInBounds_toArray, List.set_cons_zero, List.set_cons_succ]
  refine wpAnyH_take (i := 11) (oi := { dst := some 72, op := Op.call { callee := Callee.value (Operand.func 24), args := #[Operand.tmp 68, Operand.tmp 69, Operand.tmp 70, Operand.tmp 71], argTypes := #[24, 3, 3, 3] }, type := 4, pos := "law.go:109", after := _, guard := some (1, false) }) rfl (by kernel_rfl) (by kernel_rfl) (by kernel_rfl) (fun _ _ _ h => h) (Or.inr ⟨by rfl, rfl⟩) (by assumption) ?_
  try simp only [Act.put, List.setIfInBounds_toArray, List.set_cons_zero, List.set_cons_succ]
  refine wpAnyH_take (i := 12) (oi := { dst := some 73, op := Op.binOp BinOp.eql 4 (Operand.tmp 67) (Operand.tmp 72) 4, type := 4, pos := "law.go:109", after := _, guard := some (1, false) }) rfl (by kernel_rfl) (by kernel_rfl) (by kernel_rfl) (fun _ _ _ h => h) (Or.inr ⟨by rfl, rfl⟩) (by assumption) ?_
  try simp only [Act.put, List.setIfInBounds_toArray, List.set_cons_zero, List.set_cons_succ]
  refine wpAnyH_take (i := 13) (oi := { dst := some 74, op := Op.pick (Operand.tmp 62) (Operand.const (Value.bool true)) (Operand.tmp 73), type := 4, pos := "law.go:109", after := _, guard := none }) (v := ?vdr13) rfl (by kernel_rfl) (by kernel_rfl) (by kernel_rfl) (fun _ _ _ h => h) (Or.inl ⟨by rfl, ?hydr13⟩) (by assumption) ?restdr13
  case hydr13 => (intro w hSw; (try dsimp only at hSw); go_simp <;> with_reducible rfl)
  try simp only [Act.put, List.setIfInBounds_toArray, List.set_cons_zero, List.set_cons_succ]
  refine wpAnyH_ready (rs := [14]) (by kernel_rfl) (by simp) ?_
  refine AllReadyH.cons (o := { dst := some 12, op := Op.assign (Operand.tmp 74), type := 4, pos := "law.go:109", after := _, guard := none }) rfl (fun K hK => ?_) AllReadyH.nil
  go_simp
  skip
  refine hK.out _ _ ?_ (fun hHelddr14 => ?_)
  · exact ⟨(BW.cell (p := ⟨w.heap.size, 0, none⟩) cC_lt).trans cC_0, (BW.cell (p := ⟨w.heap.size, 1, none⟩) cC_lt).trans cC_1, (BW.cell (p := ⟨w.heap.size, 2, none⟩) cC_lt).trans cC_2⟩
  clear hK K hHelddr
  try simp only [Act.put, List.setIfInBounds_toArray, List.set_cons_zero, List.set_cons_succ]
  refine wpAnyH_done (by kernel_rfl) ?_ _
  have hYL := hY3.trans (BW.mono hY3.size)
  go_wp2
  go_ret
  exact ⟨rfl, hYL⟩

set_option maxRecDepth 100000 in
set_option maxHeartbeats 4000000 in
theorem sees_free_x (w : World) (A0 : Option Addr) (c0 : Nat) (now mx : Int) (ls : List Lk) (hst0 : LkV w (.agg #[.int .i64 now, .int .i64 mx, .slice A0 ls.length c0]) now mx ls) (k : Nat) (ver later who other : Int) (x : Lk) (h30 : ls.length ≤ 30) (hl : ¬ later < ver) (hk : k < ls.length) (hx : ls[k] = x) (ho : (x.o != -1) = false) (h1 : seesL now mx ls k ver who = true) (h2 : seesL now mx ls k later who = true) (h3 : seesL now mx ls k ver other = true) :
    Calls Try.prog 7 #[.agg #[.int .i64 now, .int .i64 mx, .slice A0 ls.length c0], .int .i64 (k : Int), .int .i64 ver, .int .i64 later, .int .i64 who, .int .i64 other] w fun e w' => e = .returned (.bool true) ∧ Below w.heap.size w w' := by
  have hk0 : (0 : Int) ≤ (k : Int) := by omega
  have hk1 : (k : Int) < (ls.length : Int) := by omega
  have h30' : ¬ (30 : Int) < (ls.length : Int) := by omega
  have t1 := fun v W hs => Sees_any v now mx k ver who ls W hs
  rw [h1] at t1
  have t2 := fun v W hs => Sees_any v now mx k later who ls W hs
  rw [h2] at t2
  have t3 := fun v W hs => Sees_any v now mx k ver other ls W hs
  rw [h3] at t3
  clear h1 h2 h3
  go_enter Try.func7, Try.ntmps7
  have hA0 := ((Below.refl w.heap.size w).alloc (Nat.le_refl _) (.cells #[.int .i64 now, .int .i64 mx, .slice A0 ls.length c0] 24))
  replace hst0 := hst0.keep hA0
  have kC := Blk.new_ w 24 #[.int .i64 now, .int .i64 mx, .slice A0 ls.length c0] (w.heap.size) (by simp)
  have hZ0 : Below w.heap.size w _ := hA0
  go_wp2_with fail
  refine (awake_any _).mono ?_
  rintro e w1 ⟨rfl, hb1⟩
  obtain ⟨hc1, hf1⟩ := bcell hb1
  have hz1 := hb1.size
  simp at hz1
  replace hst0 := hst0.keep hb1
  replace kC := kC.keep hb1
  have hY1 := hZ0.trans (hb1.mono hZ0.size)
  have zkC_1 : w.heap.size < w1.heap.size := by omega
  have hZ1 : Below w.heap.size w w1 := hY1
  go_wp2_with fail
  refine (t1 _ _ hst0).mono ?_
  rintro e w2 ⟨rfl, hb2⟩
  obtain ⟨hc2, hf2⟩ := bcell hb2
  have hz2 := hb2.size
  replace hst0 := hst0.keep hb2
  replace kC := kC.keep hb2
  have hY2 := hZ1.trans (hb2.mono hZ1.size)
  have zkC_2 : w.heap.size < w2.heap.size := by omega
  have hZ2 : Below w.heap.size w w2 := hY2
  go_wp2_with fail
  refine (t2 _ _ hst0).mono ?_
  rintro e w3 ⟨rfl, hb3⟩
  obtain ⟨hc3, hf3⟩ := bcell hb3
  have hz3 := hb3.size
  replace hst0 := hst0.keep hb3
  replace kC := kC.keep hb3
  have hY3 := hZ2.trans (hb3.mono hZ2.size)
  have zkC_3 : w.heap.size < w3.heap.size := by omega
  obtain ⟨b0, o0, rfl, hlt0, hel0⟩ := Sl.pos encL encL_len hst0.sl (by omega)
  have e00 := hel0 w3 (Below.refl _ _) k hk 0 _ rfl
  rw [hx] at e00
  have e01 := hel0 w3 (Below.refl _ _) k hk 1 _ rfl
  rw [hx] at e01
  simp only [Nat.add_zero] at e00
  clear hel0
  go_wp2_with fail
  have BW := (Below.refl w3.heap.size w3).drew
  have cC_lt := kC.lt
  have cC_0 : w3.cell? ⟨w.heap.size, 0, none⟩ = some (.int .i64 now) := by rw [kC.cell]; rfl
  have cC_1 : w3.cell? ⟨w.heap.size, 1, none⟩ = some (.int .i64 mx) := by rw [kC.cell]; rfl
  have cC_2 : w3.cell? ⟨w.heap.size, 2, none⟩ = some (.slice (some ⟨b0, o0, none⟩) ls.length c0) := by rw [kC.cell]; rfl
  refine wp_region_held_drew (S := fun w' => w'.cell? ⟨w.heap.size, 0, none⟩ = some (.int .i64 now) ∧ w'.cell? ⟨w.heap.size, 1, none⟩ = some (.int .i64 mx) ∧ w'.cell? ⟨w.heap.size, 2, none⟩ = some (.slice (some ⟨b0, o0, none⟩) ls.length c0)) (by kernel_rfl) ?_ (fun hHelder => ?_)
  · exact ⟨(BW.cell (p := ⟨w.heap.size, 0, none⟩) cC_lt).trans cC_0, (BW.cell (p := ⟨w.heap.size, 1, none⟩) cC_lt).trans cC_1, (BW.cell (p := ⟨w.heap.size, 2, none⟩) cC_lt).trans cC_2⟩
  refine wpAnyH_take (i := 0) (oi := { dst := some 61, op := Op.move (Operand.tmp 14), type := 4, pos := "law.go:109", after := _, guard := none }) (v := ?ver0) rfl (by kernel_rfl) (by kernel_rfl) (by kernel_rfl) (fun _ _ _ h => h) (Or.inl ⟨by rfl, ?hyer0⟩) (by assumption) ?rester0
  case hyer0 => (intro w hSw; (try dsimp only at hSw); go_simp <;> with_reducible rfl)
  try simp only [Act.put, List.setIfInBounds_toArray, List.set_cons_zero, List.set_cons_succ]
  refine wpAnyH_take (i := 1) (oi := { dst := some 62, op := Op.move (Operand.tmp 61), type := 4, pos := "law.go:109", after := _, guard := none }) (v := ?ver1) rfl (by kernel_rfl) (by kernel_rfl) (by kernel_rfl) (fun _ _ _ h => h) (Or.inl ⟨by rfl, ?hyer1⟩) (by assumption) ?rester1
  case hyer1 => (intro w hSw; (try dsimp only at hSw); go_simp <;> with_reducible rfl)
  try simp only [Act.put, List.setIfInBounds_toArray, List.set_cons_zero, List.set_cons_succ]
  refine wpAnyH_take (i := 2) (oi := { dst := some 63, op := Op.load 24 (Operand.tmp 6), type := 24, pos := "law.go:109", after := _, guard := some (1, false) }) (v := ?ver2) rfl (by kernel_rfl) (by kernel_rfl) (by kernel_rfl) (fun _ _ _ h => h) (Or.inl ⟨by rfl, ?hyer2⟩) (by assumption) ?rester2
  case hyer2 => (intro w hSw; (try dsimp only at hSw); go_simp <;> with_reducible rfl)
  try simp only [Act.put, List.setIfInBounds_toArray, List.set_cons_zero, List.set_cons_succ]
  refine wpAnyH_take (i := 3) (oi := { dst := some 64, op := Op.move (Operand.tmp 1), type := 3, pos := "law.go:109", after := _, guard := some (1, false) }) (v := ?ver3) rfl (by kernel_rfl) (by kernel_rfl) (by kernel_rfl) (fun _ _ _ h => h) (Or.inl ⟨by rfl, ?hyer3⟩) (by assumption) ?rester3
  case hyer3 => (intro w hSw; (try dsimp only at hSw); go_simp <;> with_reducible rfl)
  try simp only [Act.put, List.setIfInBounds_toArray, List.set_cons_zero, List.set_cons_succ]
  refine wpAnyH_take (i := 4) (oi := { dst := some 65, op := Op.move (Operand.tmp 2), type := 3, pos := "law.go:109", after := _, guard := some (1, false) }) (v := ?ver4) rfl (by kernel_rfl) (by kernel_rfl) (by kernel_rfl) (fun _ _ _ h => h) (Or.inl ⟨by rfl, ?hyer4⟩) (by assumption) ?rester4
  case hyer4 => (intro w hSw; (try dsimp only at hSw); go_simp <;> with_reducible rfl)
  try simp only [Act.put, List.setIfInBounds_toArray, List.set_cons_zero, List.set_cons_succ]
  refine wpAnyH_take (i := 5) (oi := { dst := some 66, op := Op.move (Operand.tmp 4), type := 3, pos := "law.go:109", after := _, guard := some (1, false) }) (v := ?ver5) rfl (by kernel_rfl) (by kernel_rfl) (by kernel_rfl) (fun _ _ _ h => h) (Or.inl ⟨by rfl, ?hyer5⟩) (by assumption) ?rester5
  case hyer5 => (intro w hSw; (try dsimp only at hSw); go_simp <;> with_reducible rfl)
  try simp only [Act.put, List.setIfInBounds_toArray, List.set_cons_zero, List.set_cons_succ]
  refine wpAnyH_take (i := 7) (oi := { dst := some 68, op := Op.load 24 (Operand.tmp 6), type := 24, pos := "law.go:109", after := _, guard := some (1, false) }) (v := ?ver7) rfl (by kernel_rfl) (by kernel_rfl) (by kernel_rfl) (fun _ _ _ h => h) (Or.inl ⟨by rfl, ?hyer7⟩) (by assumption) ?rester7
  case hyer7 => (intro w hSw; (try dsimp only at hSw); go_simp <;> with_reducible rfl)
  try simp only [Act.put, List.setIfInBounds_toArray, List.set_cons_zero, List.set_cons_succ]
  refine wpAnyH_take (i := 8) (oi := { dst := some 69, op := Op.move (Operand.tmp 1), type := 3, pos := "law.go:109", after := _, guard := some (1, false) }) (v := ?ver8) rfl (by kernel_rfl) (by kernel_rfl) (by kernel_rfl) (fun _ _ _ h => h) (Or.inl ⟨by rfl, ?hyer8⟩) (by assumption) ?rester8
  case hyer8 => (intro w hSw; (try dsimp only at hSw); go_simp <;> with_reducible rfl)
  try simp only [Act.put, List.setIfInBounds_toArray, List.set_cons_zero, List.set_cons_succ]
  refine wpAnyH_take (i := 9) (oi := { dst := some 70, op := Op.move (Operand.tmp 2), type := 3, pos := "law.go:109", after := _, guard := some (1, false) }) (v := ?ver9) rfl (by kernel_rfl) (by kernel_rfl) (by kernel_rfl) (fun _ _ _ h => h) (Or.inl ⟨by rfl, ?hyer9⟩) (by assumption) ?rester9
  case hyer9 => (intro w hSw; (try dsimp only at hSw); go_simp <;> with_reducible rfl)
  try simp only [Act.put, List.setIfInBounds_toArray, List.set_cons_zero, List.set_cons_succ]
  refine wpAnyH_take (i := 10) (oi := { dst := some 71, op := Op.move (Operand.tmp 5), type := 3, pos := "law.go:109", after := _, guard := some (1, false) }) (v := ?ver10) rfl (by kernel_rfl) (by kernel_rfl) (by kernel_rfl) (fun _ _ _ h => h) (Or.inl ⟨by rfl, ?hyer10⟩) (by assumption) ?rester10
  case hyer10 => (intro w hSw; (try dsimp only at hSw); go_simp <;> with_reducible rfl)
  try simp only [Act.put, List.setIfInBounds_toArray, List.set_cons_zero, List.set_cons_succ]
  refine wpAnyH_ready (rs := [6]) (by kernel_rfl) (by simp) ?_
  refine AllReadyH.cons (o := { dst := some 67, op := Op.call { callee := Callee.value (Operand.func 24), args := #[Operand.tmp 63, Operand.tmp 64, Operand.tmp 65, Operand.tmp 66], argTypes := #[24, 3, 3, 3] }, type := 4, pos := "law.go:109", after := _, guard := some (1, false) }) rfl (fun K hK => ?_) AllReadyH.nil
  go_simp
  refine (t1 _ _ (hst0.keep BW)).mono ?_
  rintro e x1 ⟨rfl, hx1⟩
  have BX := BW.trans (hx1.mono BW.size)
  try go_wp2_with fail
  refine hK.out _ _ ?_ (fun hHelder6 => ?_)
  · exact ⟨(BX.cell (p := ⟨w.heap.size, 0, none⟩) cC_lt).trans cC_0, (BX.cell (p := ⟨w.heap.size, 1, none⟩) cC_lt).trans cC_1, (BX.cell (p := ⟨w.heap.size, 2, none⟩) cC_lt).trans cC_2⟩
  clear hK K hHelder
  try simp only [Act.put, List.setIfInBounds_toArray, List.set_cons_zero, List.set_cons_succ]
  refine wpAnyH_ready (rs := [11]) (by kernel_rfl) (by simp) ?_
  refine AllReadyH.cons (o := { dst := some 72, op := Op.call { callee := Callee.value (Operand.func 24), args := #[Operand.tmp 68, Operand.tmp 69, Operand.tmp 70, Operand.tmp 71], argTypes := #[24, 3, 3, 3] }, type := 4, pos := "law.go:109", after := _, guard := some (1, false) }) rfl (fun K hK => ?_) AllReadyH.nil
  go_simp
  refine (t3 _ _ (hst0.keep BX)).mono ?_
  rintro e x2 ⟨rfl, hx2⟩
  have BZ := BX.trans (hx2.mono BX.size)
  try go_wp2_with fail
  refine hK.out _ _ ?_ (fun hHelder11 => ?_)
  · exact ⟨(BZ.cell (p := ⟨w.heap.size, 0, none⟩) cC_lt).trans cC_0, (BZ.cell (p := ⟨w.heap.size, 1, none⟩) cC_lt).trans cC_1, (BZ.cell (p := ⟨w.heap.size, 2, none⟩) cC_lt).trans cC_2⟩
  clear hK K hHelder6
  try simp only [Act.put, List.setIfInBounds_toArray, List.set_cons_zero, List.set_cons_succ]
  refine wpAnyH_take (i := 12) (oi := { dst := some 73, op := Op.binOp BinOp.eql 4 (Operand.tmp 67) (Operand.tmp 72) 4, type := 4, pos := "law.go:109", after := _, guard := some (1, false) }) (v := ?ver12) rfl (by kernel_rfl) (by kernel_rfl) (by kernel_rfl) (fun _ _ _ h => h) (Or.inl ⟨by rfl, ?hyer12⟩) (by assumption) ?rester12
  case hyer12 => (intro w hSw; (try dsimp only at hSw); go_simp <;> with_reducible rfl)
  try simp only [Act.put, List.setIfInBounds_toArray, List.set_cons_zero, List.set_cons_succ]
  refine wpAnyH_take (i := 13) (oi := { dst := some 74, op := Op.pick (Operand.tmp 62) (Operand.const (Value.bool true)) (Operand.tmp 73), type := 4, pos := "law.go:109", after := _, guard := none }) (v := ?ver13) rfl (by kernel_rfl) (by kernel_rfl) (by kernel_rfl) (fun _ _ _ h => h) (Or.inl ⟨by rfl, ?hyer13⟩) (by assumption) ?rester13
  case hyer13 => (intro w hSw; (try dsimp only at hSw); go_simp <;> with_reducible rfl)
  try simp only [Act.put, List.setIfInBounds_toArray, List.set_cons_zero, List.set_cons_succ]
  refine wpAnyH_ready (rs := [14]) (by kernel_rfl) (by simp) ?_
  refine AllReadyH.cons (o := { dst := some 12, op := Op.assign (Operand.tmp 74), type := 4, pos := "law.go:109", after := _, guard := none }) rfl (fun K hK => ?_) AllReadyH.nil
  go_simp
  skip
  refine hK.out _ _ ?_ (fun hHelder14 => ?_)
  · exact ⟨(BZ.cell (p := ⟨w.heap.size, 0, none⟩) cC_lt).trans cC_0, (BZ.cell (p := ⟨w.heap.size, 1, none⟩) cC_lt).trans cC_1, (BZ.cell (p := ⟨w.heap.size, 2, none⟩) cC_lt).trans cC_2⟩
  clear hK K hHelder11
  try simp only [Act.put, List.setIfInBounds_toArray, List.set_cons_zero, List.set_cons_succ]
  refine wpAnyH_done (by kernel_rfl) ?_ _
  have hYL := hY3.trans (BZ.mono hY3.size)
  go_wp2
  go_ret
  exact ⟨rfl, hYL⟩

set_option maxRecDepth 100000 in
set_option maxHeartbeats 4000000 in
theorem sees_held_o (w : World) (A0 : Option Addr) (c0 : Nat) (now mx : Int) (ls : List Lk) (hst0 : LkV w (.agg #[.int .i64 now, .int .i64 mx, .slice A0 ls.length c0]) now mx ls) (k : Nat) (ver later who other : Int) (x : Lk) (h30 : ls.length ≤ 30) (hl : ¬ later < ver) (hk : k < ls.length) (hx : ls[k] = x) (ho : (x.o != -1) = true) (h1 : seesL now mx ls k ver who = false)  :
    Calls Try.prog 7 #[.agg #[.int .i64 now, .int .i64 mx, .slice A0 ls.length c0], .int .i64 (k : Int), .int .i64 ver, .int .i64 later, .int .i64 who, .int .i64 other] w fun e w' => e = .returned (.bool true) ∧ Below w.heap.size w w' := by
  have hk0 : (0 : Int) ≤ (k : Int) := by omega
  have hk1 : (k : Int) < (ls.length : Int) := by omega
  have h30' : ¬ (30 : Int) < (ls.length : Int) := by omega
  have t1 := fun v W hs => Sees_any v now mx k ver who ls W hs
  rw [h1] at t1
  clear h1
  go_enter Try.func7, Try.ntmps7
  have hA0 := ((Below.refl w.heap.size w).alloc (Nat.le_refl _) (.cells #[.int .i64 now, .int .i64 mx, .slice A0 ls.length c0] 24))
  replace hst0 := hst0.keep hA0
  have kC := Blk.new_ w 24 #[.int .i64 now, .int .i64 mx, .slice A0 ls.length c0] (w.heap.size) (by simp)
  have hZ0 : Below w.heap.size w _ := hA0
  go_wp2_with fail
  refine (awake_any _).mono ?_
  rintro e w1 ⟨rfl, hb1⟩
  obtain ⟨hc1, hf1⟩ := bcell hb1
  have hz1 := hb1.size
  simp at hz1
  replace hst0 := hst0.keep hb1
  replace kC := kC.keep hb1
  have hY1 := hZ0.trans (hb1.mono hZ0.size)
  have zkC_1 : w.heap.size < w1.heap.size := by omega
  have hZ1 : Below w.heap.size w w1 := hY1
  go_wp2_with fail
  refine (t1 _ _ hst0).mono ?_
  rintro e w2 ⟨rfl, hb2⟩
  obtain ⟨hc2, hf2⟩ := bcell hb2
  have hz2 := hb2.size
  replace hst0 := hst0.keep hb2
  replace kC := kC.keep hb2
  have hY2 := hZ1.trans (hb2.mono hZ1.size)
  have zkC_2 : w.heap.size < w2.heap.size := by omega
  obtain ⟨b0, o0, rfl, hlt0, hel0⟩ := Sl.pos encL encL_len hst0.sl (by omega)
  have e00 := hel0 w2 (Below.refl _ _) k hk 0 _ rfl
  rw [hx] at e00
  have e01 := hel0 w2 (Below.refl _ _) k hk 1 _ rfl
  rw [hx] at e01
  simp only [Nat.add_zero] at e00
  clear hel0
  go_wp2_with fail
  have BW := (Below.refl w2.heap.size w2).drew
  have cC_lt := kC.lt
  have cC_0 : w2.cell? ⟨w.heap.size, 0, none⟩ = some (.int .i64 now) := by rw [kC.cell]; rfl
  have cC_1 : w2.cell? ⟨w.heap.size, 1, none⟩ = some (.int .i64 mx) := by rw [kC.cell]; rfl
  have cC_2 : w2.cell? ⟨w.heap.size, 2, none⟩ = some (.slice (some ⟨b0, o0, none⟩) ls.length c0) := by rw [kC.cell]; rfl
  refine wp_region_held_drew (S := fun w' => w'.cell? ⟨w.heap.size, 0, none⟩ = some (.int .i64 now) ∧ w'.cell? ⟨w.heap.size, 1, none⟩ = some (.int .i64 mx) ∧ w'.cell? ⟨w.heap.size, 2, none⟩ = some (.slice (some ⟨b0, o0, none⟩) ls.length c0)) (by kernel_rfl) ?_ (fun hHeldfr => ?_)
  · exact ⟨(BW.cell (p := ⟨w.heap.size, 0, none⟩) cC_lt).trans cC_0, (BW.cell (p := ⟨w.heap.size, 1, none⟩) cC_lt).trans cC_1, (BW.cell (p := ⟨w.heap.size, 2, none⟩) cC_lt).trans cC_2⟩
  refine wpAnyH_take (i := 0) (oi := { dst := some 61, op := Op.move (Operand.tmp 14), type := 4, pos := "law.go:109", after := _, guard := none }) (v := ?vfr0) rfl (by kernel_rfl) (by kernel_rfl) (by kernel_rfl) (fun _ _ _ h => h) (Or.inl ⟨by rfl, ?hyfr0⟩) (by assumption) ?restfr0
  case hyfr0 => (intro w hSw; (try dsimp only at hSw); go_simp <;> with_reducible rfl)
  try simp only [Act.put, List.setIfInBounds_toArray, List.set_cons_zero, List.set_cons_succ]
  refine wpAnyH_take (i := 1) (oi := { dst := some 62, op := Op.move (Operand.tmp 61), type := 4, pos := "law.go:109", after := _, guard := none }) (v := ?vfr1) rfl (by kernel_rfl) (by kernel_rfl) (by kernel_rfl) (fun _ _ _ h => h) (Or.inl ⟨by rfl, ?hyfr1⟩) (by assumption) ?restfr1
  case hyfr1 => (intro w hSw; (try dsimp only at hSw); go_simp <;> with_reducible rfl)
  try simp only [Act.put, List.setIfInBounds_toArray, List.set_cons_zero, List.set_cons_succ]
  refine wpAnyH_take (i := 2) (oi := { dst := some 63, op := Op.load 24 (Operand.tmp 6), type := 24, pos := "law.go:109", after := _, guard := some (1, false) }) rfl (by kernel_rfl) (by kernel_rfl) (by kernel_rfl) (fun _ _ _ h => h) (Or.inr ⟨by rfl, rfl⟩) (by assumption) ?_
  try simp only [Act.put, List.setIfInBounds_toArray, List.set_cons_zero, List.set_cons_succ]
  refine wpAnyH_take (i := 3) (oi := { dst := some 64, op := Op.move (Operand.tmp 1), type := 3, pos := "law.go:109", after := _, guard := some (1, false) }) rfl (by kernel_rfl) (by kernel_rfl) (by kernel_rfl) (fun _ _ _ h => h) (Or.inr ⟨by rfl, rfl⟩) (by assumption) ?_
  try simp only [Act.put, List.setIfInBounds_toArray, List.set_cons_zero, List.set_cons_succ]
  refine wpAnyH_take (i := 4) (oi := { dst := some 65, op := Op.move (Operand.tmp 2), type := 3, pos := "law.go:109", after := _, guard := some (1, false) }) rfl (by kernel_rfl) (by kernel_rfl) (by kernel_rfl) (fun _ _ _ h => h) (Or.inr ⟨by rfl, rfl⟩) (by assumption) ?_
  try simp only [Act.put, List.setIfInBounds_toArray, List.set_cons_zero, List.set_cons_succ]
  refine wpAnyH_take (i := 5) (oi := { dst := some 66, op := Op.move (Operand.tmp 4), type := 3, pos := "law.go:109", after := _, guard := some (1, false) }) rfl (by kernel_rfl) (by kernel_rfl) (by kernel_rfl) (fun _ _ _ h => h) (Or.inr ⟨by rfl, rfl⟩) (by assumption) ?_
  try simp only [Act.put, List.setIfInBounds_toArray, List.set_cons_zero, List.set_cons_succ]
  refine wpAnyH_take (i := 6) (oi := { dst := some 67, op := Op.call { callee := Callee.value (Operand.func 24), args := #[Operand.tmp 63, Operand.tmp 64, Operand.tmp 65, Operand.tmp 66], argTypes := #[24, 3, 3, 3] }, type := 4, pos := "law.go:109", after := _, guard := some (1, false) }) rfl (by kernel_rfl) (by kernel_rfl) (by kernel_rfl) (fun _ _ _ h => h) (Or.inr ⟨by rfl, rfl⟩) (by assumption) ?_
  try simp only [Act.put, List.setIfInBounds_toArray, List.set_cons_zero, List.set_cons_succ]
  refine wpAnyH_take (i := 7) (oi := { dst := some 68, op := Op.load 24 (Operand.tmp 6), type := 24, pos := "law.go:109", after := _, guard := some (1, false) }) rfl (by kernel_rfl) (by kernel_rfl) (by kernel_rfl) (fun _ _ _ h => h) (Or.inr ⟨by rfl, rfl⟩) (by assumption) ?_
  try simp only [Act.put, List.setIfInBounds_toArray, List.set_cons_zero, List.set_cons_succ]
  refine wpAnyH_take (i := 8) (oi := { dst := some 69, op := Op.move (Operand.tmp 1), type := 3, pos := "law.go:109", after := _, guard := some (1, false) }) rfl (by kernel_rfl) (by kernel_rfl) (by kernel_rfl) (fun _ _ _ h => h) (Or.inr ⟨by rfl, rfl⟩) (by assumption) ?_
  try simp only [Act.put, List.setIfInBounds_toArray, List.set_cons_zero, List.set_cons_succ]
  refine wpAnyH_take (i := 9) (oi := { dst := some 70, op := Op.move (Operand.tmp 2), type := 3, pos := "law.go:109", after := _, guard := some (1, false) }) rfl (by kernel_rfl) (by kernel_rfl) (by kernel_rfl) (fun _ _ _ h => h) (Or.inr ⟨by rfl, rfl⟩) (by assumption) ?_
  try simp only [Act.put, List.setIfInBounds_toArray, List.set_cons_zero, List.set_cons_succ]
  refine wpAnyH_take (i := 10) (oi := { dst := some 71, op := Op.move (Operand.tmp 5), type := 3, pos := "law.go:109", after := _, guard := some (1, false) }) rfl (by kernel_rfl) (by kernel_rfl) (by kernel_rfl) (fun _ _ _ h => h) (Or.inr ⟨by rfl, rfl⟩) (by assumption) ?_
  try simp only [Act.put, List.setIfInBounds_toArray, List.set_cons_zero, List.set_cons_succ]
  refine wpAnyH_take (i := 11) (oi := { dst := some 72, op := Op.call { callee := Callee.value (Operand.func 24), args := #[Operand.tmp 68, Operand.tmp 69, Operand.tmp 70, Operand.tmp 71], argTypes := #[24, 3, 3, 3] }, type := 4, pos := "law.go:109", after := _, guard := some (1, false) }) rfl (by kernel_rfl) (by kernel_rfl) (by kernel_rfl) (fun _ _ _ h => h) (Or.inr ⟨by rfl, rfl⟩) (by assumption) ?_
  try simp only [Act.put, List.setIfInBounds_toArray, List.set_cons_zero, List.set_cons_succ]
  refine wpAnyH_take (i := 12) (oi := { dst := some 73, op := Op.binOp BinOp.eql 4 (Operand.tmp 67) (Operand.tmp 72) 4, type := 4, pos := "law.go:109", after := _, guard := some (1, false) }) rfl (by kernel_rfl) (by kernel_rfl) (by kernel_rfl) (fun _ _ _ h => h) (Or.inr ⟨by rfl, rfl⟩) (by assumption) ?_
  try simp only [Act.put, List.setIfInBounds_toArray, List.set_cons_zero, List.set_cons_succ]
  refine wpAnyH_take (i := 13) (oi := { dst := some 74, op := Op.pick (Operand.tmp 62) (Operand.const (Value.bool true)) (Operand.tmp 73), type := 4, pos := "law.go:109", after := _, guard := none }) (v := ?vfr13) rfl (by kernel_rfl) (by kernel_rfl) (by kernel_rfl) (fun _ _ _ h => h) (Or.inl ⟨by rfl, ?hyfr13⟩) (by assumption) ?restfr13
  case hyfr13 => (intro w hSw; (try dsimp only at hSw); go_simp <;> with_reducible rfl)
  try simp only [Act.put, List.setIfInBounds_toArray, List.set_cons_zero, List.set_cons_succ]
  refine wpAnyH_ready (rs := [14]) (by kernel_rfl) (by simp) ?_
  refine AllReadyH.cons (o := { dst := some 12, op := Op.assign (Operand.tmp 74), type := 4, pos := "law.go:109", after := _, guard := none }) rfl (fun K hK => ?_) AllReadyH.nil
  go_simp
  skip
  refine hK.out _ _ ?_ (fun hHeldfr14 => ?_)
  · exact ⟨(BW.cell (p := ⟨w.heap.size, 0, none⟩) cC_lt).trans cC_0, (BW.cell (p := ⟨w.heap.size, 1, none⟩) cC_lt).trans cC_1, (BW.cell (p := ⟨w.heap.size, 2, none⟩) cC_lt).trans cC_2⟩
  clear hK K hHeldfr
  try simp only [Act.put, List.setIfInBounds_toArray, List.set_cons_zero, List.set_cons_succ]
  refine wpAnyH_done (by kernel_rfl) ?_ _
  have hYL := hY2.trans (BW.mono hY2.size)
  go_wp2
  go_ret
  exact ⟨rfl, hYL⟩

set_option maxRecDepth 100000 in
set_option maxHeartbeats 4000000 in
theorem sees_free_o (w : World) (A0 : Option Addr) (c0 : Nat) (now mx : Int) (ls : List Lk) (hst0 : LkV w (.agg #[.int .i64 now, .int .i64 mx, .slice A0 ls.length c0]) now mx ls) (k : Nat) (ver later who other : Int) (x : Lk) (h30 : ls.length ≤ 30) (hl : ¬ later < ver) (hk : k < ls.length) (hx : ls[k] = x) (ho : (x.o != -1) = false) (h1 : seesL now mx ls k ver who = false) (h3 : seesL now mx ls k ver other = false) :
    Calls Try.prog 7 #[.agg #[.int .i64 now, .int .i64 mx, .slice A0 ls.length c0], .int .i64 (k : Int), .int .i64 ver, .int .i64 later, .int .i64 who, .int .i64 other] w fun e w' => e = .returned (.bool true) ∧ Below w.heap.size w w' := by
  have hk0 : (0 : Int) ≤ (k : Int) := by omega
  have hk1 : (k : Int) < (ls.length : Int) := by omega
  have h30' : ¬ (30 : Int) < (ls.length : Int) := by omega
  have t1 := fun v W hs => Sees_any v now mx k ver who ls W hs
  rw [h1] at t1
  have t3 := fun v W hs => Sees_any v now mx k ver other ls W hs
  rw [h3] at t3
  clear h1 h3
  go_enter Try.func7, Try.ntmps7
  have hA0 := ((Below.refl w.heap.size w).alloc (Nat.le_refl _) (.cells #[.int .i64 now, .int .i64 mx, .slice A0 ls.length c0] 24))
  replace hst0 := hst0.keep hA0
  have kC := Blk.new_ w 24 #[.int .i64 now, .int .i64 mx, .slice A0 ls.length c0] (w.heap.size) (by simp)
  have hZ0 : Below w.heap.size w _ := hA0
  go_wp2_with fail
  refine (awake_any _).mono ?_
  rintro e w1 ⟨rfl, hb1⟩
  obtain ⟨hc1, hf1⟩ := bcell hb1
  have hz1 := hb1.size
  simp at hz1
  replace hst0 := hst0.keep hb1
  replace kC := kC.keep hb1
  have hY1 := hZ0.trans (hb1.mono hZ0.size)
  have zkC_1 : w.heap.size < w1.heap.size := by omega
  have hZ1 : Below w.heap.size w w1 := hY1
  go_wp2_with fail
  refine (t1 _ _ hst0).mono ?_
  rintro e w2 ⟨rfl, hb2⟩
  obtain ⟨hc2, hf2⟩ := bcell hb2
  have hz2 := hb2.size
  replace hst0 := hst0.keep hb2
  replace kC := kC.keep hb2
  have hY2 := hZ1.trans (hb2.mono hZ1.size)
  have zkC_2 : w.heap.size < w2.heap.size := by omega
  obtain ⟨b0, o0, rfl, hlt0, hel0⟩ := Sl.pos encL encL_len hst0.sl (by omega)
  have e00 := hel0 w2 (Below.refl _ _) k hk 0 _ rfl
  rw [hx] at e00
  have e01 := hel0 w2 (Below.refl _ _) k hk 1 _ rfl
  rw [hx] at e01
  simp only [Nat.add_zero] at e00
  clear hel0
  go_wp2_with fail
  have BW := (Below.refl w2.heap.size w2).drew
  have cC_lt := kC.lt
  have cC_0 : w2.cell? ⟨w.heap.size, 0, none⟩ = some (.int .i64 now) := by rw [kC.cell]; rfl
  have cC_1 : w2.cell? ⟨w.heap.size, 1, none⟩ = some (.int .i64 mx) := by rw [kC.cell]; rfl
  have cC_2 : w2.cell? ⟨w.heap.size, 2, none⟩ = some (.slice (some ⟨b0, o0, none⟩) ls.length c0) := by rw [kC.cell]; rfl
  refine wp_region_held_drew (S := fun w' => w'.cell? ⟨w.heap.size, 0, none⟩ = some (.int .i64 now) ∧ w'.cell? ⟨w.heap.size, 1, none⟩ = some (.int .i64 mx) ∧ w'.cell? ⟨w.heap.size, 2, none⟩ = some (.slice (some ⟨b0, o0, none⟩) ls.length c0)) (by kernel_rfl) ?_ (fun hHeldgr => ?_)
  · exact ⟨(BW.cell (p := ⟨w.heap.size, 0, none⟩) cC_lt).trans cC_0, (BW.cell (p := ⟨w.heap.size, 1, none⟩) cC_lt).trans cC_1, (BW.cell (p := ⟨w.heap.size, 2, none⟩) cC_lt).trans cC_2⟩
  refine wpAnyH_take (i := 0) (oi := { dst := some 61, op := Op.move (Operand.tmp 14), type := 4, pos := "law.go:109", after := _, guard := none }) (v := ?vgr0) rfl (by kernel_rfl) (by kernel_rfl) (by kernel_rfl) (fun _ _ _ h => h) (Or.inl ⟨by rfl, ?hygr0⟩) (by assumption) ?restgr0
  case hygr0 => (intro w hSw; (try dsimp only at hSw); go_simp <;> with_reducible rfl)
  try simp only [Act.put, List.setIfInBounds_toArray, List.set_cons_zero, List.set_cons_succ]
  refine wpAnyH_take (i := 1) (oi := { dst := some 62, op := Op.move (Operand.tmp 61), type := 4, pos := "law.go:109", after := _, guard := none }) (v := ?vgr1) rfl (by kernel_rfl) (by kernel_rfl) (by kernel_rfl) (fun _ _ _ h => h) (Or.inl ⟨by rfl, ?hygr1⟩) (by assumption) ?restgr1
  case hygr1 => (intro w hSw; (try dsimp only at hSw); go_simp <;> with_reducible rfl)
  try simp only [Act.put, List.setIfInBounds_toArray, List.set_cons_zero, List.set_cons_succ]
  refine wpAnyH_take (i := 2) (oi := { dst := some 63, op := Op.load 24 (Operand.tmp 6), type := 24, pos := "law.go:109", after := _, guard := some (1, false) }) (v := ?vgr2) rfl (by kernel_rfl) (by kernel_rfl) (by kernel_rfl) (fun _ _ _ h => h) (Or.inl ⟨by rfl, ?hygr2⟩) (by assumption) ?restgr2
  case hygr2 => (intro w hSw; (try dsimp only at hSw); go_simp <;> with_reducible rfl)
  try simp only [Act.put, List.setIfInBounds_toArray, List.set_cons_zero, List.set_cons_succ]
  refine wpAnyH_take (i := 3) (oi := { dst := some 64, op := Op.move (Operand.tmp 1), type := 3, pos := "law.go:109", after := _, guard := some (1, false) }) (v := ?vgr3) rfl (by kernel_rfl) (by kernel_rfl) (by kernel_rfl) (fun _ _ _ h => h) (Or.inl ⟨by rfl, ?hygr3⟩) (by assumption) ?restgr3
  case hygr3 => (intro w hSw; (try dsimp only at hSw); go_simp <;> with_reducible rfl)
  try simp only [Act.put, List.setIfInBounds_toArray, List.set_cons_zero, List.set_cons_succ]
  refine wpAnyH_take (i := 4) (oi := { dst := some 65, op := Op.move (Operand.tmp 2), type := 3, pos := "law.go:109", after := _, guard := some (1, false) }) (v := ?vgr4) rfl (by kernel_rfl) (by kernel_rfl) (by kernel_rfl) (fun _ _ _ h => h) (Or.inl ⟨by rfl, ?hygr4⟩) (by assumption) ?restgr4
  case hygr4 => (intro w hSw; (try dsimp only at hSw); go_simp <;> with_reducible rfl)
  try simp only [Act.put, List.setIfInBounds_toArray, List.set_cons_zero, List.set_cons_succ]
  refine wpAnyH_take (i := 5) (oi := { dst := some 66, op := Op.move (Operand.tmp 4), type := 3, pos := "law.go:109", after := _, guard := some (1, false) }) (v := ?vgr5) rfl (by kernel_rfl) (by kernel_rfl) (by kernel_rfl) (fun _ _ _ h => h) (Or.inl ⟨by rfl, ?hygr5⟩) (by assumption) ?restgr5
  case hygr5 => (intro w hSw; (try dsimp only at hSw); go_simp <;> with_reducible rfl)
  try simp only [Act.put, List.setIfInBounds_toArray, List.set_cons_zero, List.set_cons_succ]
  refine wpAnyH_take (i := 7) (oi := { dst := some 68, op := Op.load 24 (Operand.tmp 6), type := 24, pos := "law.go:109", after := _, guard := some (1, false) }) (v := ?vgr7) rfl (by kernel_rfl) (by kernel_rfl) (by kernel_rfl) (fun _ _ _ h => h) (Or.inl ⟨by rfl, ?hygr7⟩) (by assumption) ?restgr7
  case hygr7 => (intro w hSw; (try dsimp only at hSw); go_simp <;> with_reducible rfl)
  try simp only [Act.put, List.setIfInBounds_toArray, List.set_cons_zero, List.set_cons_succ]
  refine wpAnyH_take (i := 8) (oi := { dst := some 69, op := Op.move (Operand.tmp 1), type := 3, pos := "law.go:109", after := _, guard := some (1, false) }) (v := ?vgr8) rfl (by kernel_rfl) (by kernel_rfl) (by kernel_rfl) (fun _ _ _ h => h) (Or.inl ⟨by rfl, ?hygr8⟩) (by assumption) ?restgr8
  case hygr8 => (intro w hSw; (try dsimp only at hSw); go_simp <;> with_reducible rfl)
  try simp only [Act.put, List.setIfInBounds_toArray, List.set_cons_zero, List.set_cons_succ]
  refine wpAnyH_take (i := 9) (oi := { dst := some 70, op := Op.move (Operand.tmp 2), type := 3, pos := "law.go:109", after := _, guard := some (1, false) }) (v := ?vgr9) rfl (by kernel_rfl) (by kernel_rfl) (by kernel_rfl) (fun _ _ _ h => h) (Or.inl ⟨by rfl, ?hygr9⟩) (by assumption) ?restgr9
  case hygr9 => (intro w hSw; (try dsimp only at hSw); go_simp <;> with_reducible rfl)
  try simp only [Act.put, List.setIfInBounds_toArray, List.set_cons_zero, List.set_cons_succ]
  refine wpAnyH_take (i := 10) (oi := { dst := some 71, op := Op.move (Operand.tmp 5), type := 3, pos := "law.go:109", after := _, guard := some (1, false) }) (v := ?vgr10) rfl (by kernel_rfl) (by kernel_rfl) (by kernel_rfl) (fun _ _ _ h => h) (Or.inl ⟨by rfl, ?hygr10⟩) (by assumption) ?restgr10
  case hygr10 => (intro w hSw; (try dsimp only at hSw); go_simp <;> with_reducible rfl)
  try simp only [Act.put, List.setIfInBounds_toArray, List.set_cons_zero, List.set_cons_succ]
  refine wpAnyH_ready (rs := [6]) (by kernel_rfl) (by simp) ?_
  refine AllReadyH.cons (o := { dst := some 67, op := Op.call { callee := Callee.value (Operand.func 24), args := #[Operand.tmp 63, Operand.tmp 64, Operand.tmp 65, Operand.tmp 66], argTypes := #[24, 3, 3, 3] }, type := 4, pos := "law.go:109", after := _, guard := some (1, false) }) rfl (fun K hK => ?_) AllReadyH.nil
  go_simp
  refine (t1 _ _ (hst0.keep BW)).mono ?_
  rintro e x1 ⟨rfl, hx1⟩
  have BX := BW.trans (hx1.mono BW.size)
  try go_wp2_with fail
  refine hK.out _ _ ?_ (fun hHeldgr6 => ?_)
  · exact ⟨(BX.cell (p := ⟨w.heap.size, 0, none⟩) cC_lt).trans cC_0, (BX.cell (p := ⟨w.heap.size, 1, none⟩) cC_lt).trans cC_1, (BX.cell (p := ⟨w.heap.size, 2, none⟩) cC_lt).trans cC_2⟩
  clear hK K hHeldgr
  try simp only [Act.put, List.setIfInBounds_toArray, List.set_cons_zero, List.set_cons_succ]
  refine wpAnyH_ready (rs := [11]) (by kernel_rfl) (by simp) ?_
  refine AllReadyH.cons (o := { dst := some 72, op := Op.call { callee := Callee.value (Operand.func 24), args := #[Operand.tmp 68, Operand.tmp 69, Operand.tmp 70, Operand.tmp 71], argTypes := #[24, 3, 3, 3] }, type := 4, pos := "law.go:109", after := _, guard := some (1, false) }) rfl (fun K hK => ?_) AllReadyH.nil
  go_simp
  refine (t3 _ _ (hst0.keep BX)).mono ?_
  rintro e x2 ⟨rfl, hx2⟩
  have BZ := BX.trans (hx2.mono BX.size)
  try go_wp2_with fail
  refine hK.out _ _ ?_ (fun hHeldgr11 => ?_)
  · exact ⟨(BZ.cell (p := ⟨w.heap.size, 0, none⟩) cC_lt).trans cC_0, (BZ.cell (p := ⟨w.heap.size, 1, none⟩) cC_lt).trans cC_1, (BZ.cell (p := ⟨w.heap.size, 2, none⟩) cC_lt).trans cC_2⟩
  clear hK K hHeldgr6
  try simp only [Act.put, List.setIfInBounds_toArray, List.set_cons_zero, List.set_cons_succ]
  refine wpAnyH_take (i := 12) (oi := { dst := some 73, op := Op.binOp BinOp.eql 4 (Operand.tmp 67) (Operand.tmp 72) 4, type := 4, pos := "law.go:109", after := _, guard := some (1, false) }) (v := ?vgr12) rfl (by kernel_rfl) (by kernel_rfl) (by kernel_rfl) (fun _ _ _ h => h) (Or.inl ⟨by rfl, ?hygr12⟩) (by assumption) ?restgr12
  case hygr12 => (intro w hSw; (try dsimp only at hSw); go_simp <;> with_reducible rfl)
  try simp only [Act.put, List.setIfInBounds_toArray, List.set_cons_zero, List.set_cons_succ]
  refine wpAnyH_take (i := 13) (oi := { dst := some 74, op := Op.pick (Operand.tmp 62) (Operand.const (Value.bool true)) (Operand.tmp 73), type := 4, pos := "law.go:109", after := _, guard := none }) (v := ?vgr13) rfl (by kernel_rfl) (by kernel_rfl) (by kernel_rfl) (fun _ _ _ h => h) (Or.inl ⟨by rfl, ?hygr13⟩) (by assumption) ?restgr13
  case hygr13 => (intro w hSw; (try dsimp only at hSw); go_simp <;> with_reducible rfl)
  try simp only [Act.put, List.setIfInBounds_toArray, List.set_cons_zero, List.set_cons_succ]
  refine wpAnyH_ready (rs := [14]) (by kernel_rfl) (by simp) ?_
  refine AllReadyH.cons (o := { dst := some 12, op := Op.assign (Operand.tmp 74), type := 4, pos := "law.go:109", after := _, guard := none }) rfl (fun K hK => ?_) AllReadyH.nil
  go_simp
  skip
  refine hK.out _ _ ?_ (fun hHeldgr14 => ?_)
  · exact ⟨(BZ.cell (p := ⟨w.heap.size, 0, none⟩) cC_lt).trans cC_0, (BZ.cell (p := ⟨w.heap.size, 1, none⟩) cC_lt).trans cC_1, (BZ.cell (p := ⟨w.heap.size, 2, none⟩) cC_lt).trans cC_2⟩
  clear hK K hHeldgr11
  try simp only [Act.put, List.setIfInBounds_toArray, List.set_cons_zero, List.set_cons_succ]
  refine wpAnyH_done (by kernel_rfl) ?_ _
  have hYL := hY2.trans (BZ.mono hY2.size)
  go_wp2
  go_ret
  exact ⟨rfl, hYL⟩

theorem sees_out {now mx : Int} {ls : List Lk} {i : Int} (h : ¬ (0 ≤ i ∧ i < (ls.length : Int))) (ver who : Int) : seesL now mx ls i ver who = false := by
  unfold seesL
  rw [dif_neg (fun hh => h hh.2)]
theorem sees_not_may {now mx : Int} {ls : List Lk} (h : mayL now mx ls = false) (i ver who : Int) : seesL now mx ls i ver who = false := by
  unfold seesL
  rw [dif_neg (fun hh => by rw [h] at hh; exact absurd hh.1 (by simp))]

theorem lockSees_walk (w : World) (v0 : Value) (now mx : Int) (ls : List Lk) (hst0 : LkV w v0 now mx ls) (_wn : okI now) (_wm : okI mx) (_hok : ∀ q ∈ ls, lkOk q) (i : Int) (_w1 : (Lit.int .i64 i).wf = true) (ver : Int) (_w2 : (Lit.int .i64 ver).wf = true)
    (later : Int) (_w3 : (Lit.int .i64 later).wf = true) (who : Int) (_w4 : (Lit.int .i64 who).wf = true) (other : Int) (_w5 : (Lit.int .i64 other).wf = true) :
    Calls Try.prog 7 #[v0, .int .i64 i, .int .i64 ver, .int .i64 later, .int .i64 who, .int .i64 other] w fun e w' => e = .returned (.bool true) ∧ Below w.heap.size w w' := by
  obtain ⟨A0, c0, rfl, hst0⟩ := hst0.form
  by_cases h30 : 30 < ls.length
  · exact sees_long w A0 c0 now mx ls hst0 i ver later who other h30
  have h30 : ls.length ≤ 30 := by omega
  by_cases hl : later < ver
  · exact sees_less w A0 c0 now mx ls hst0 i ver later who other h30 hl
  by_cases hi : i < 0
  · exact sees_neg w A0 c0 now mx ls hst0 i ver later who other h30 hl (sees_out (by omega) _ _) (sees_out (by omega) _ _) hi
  by_cases hi2 : (ls.length : Int) ≤ i
  · exact sees_big w A0 c0 now mx ls hst0 i ver later who other h30 hl (sees_out (by omega) _ _) (sees_out (by omega) _ _) hi hi2
  obtain ⟨k, rfl⟩ := Int.eq_ofNat_of_zero_le (Int.not_lt.1 hi)
  have hk : k < ls.length := by omega
  have h2 : seesL now mx ls k ver who = true → seesL now mx ls k later who = true := by
    cases hm : mayL now mx ls with
    | false => rw [sees_not_may hm]; intro h; cases h
    | true =>
      rw [sees_in hm hk, sees_in hm hk]
      simp only [Bool.and_eq_true, decide_eq_true_eq]
      exact fun h => ⟨h.1, by omega⟩
  have h3 : (ls[k].o != -1) = false → seesL now mx ls k ver other = seesL now mx ls k ver who := by
    intro ho
    cases hm : mayL now mx ls with
    | false => rw [sees_not_may hm, sees_not_may hm]
    | true =>
      rw [sees_in hm hk, sees_in hm hk]
      have ho : ls[k].o = -1 := by simpa using ho
      simp [freeH, ho]
  cases h1 : seesL now mx ls k ver who with
  | true =>
    cases ho : (ls[k].o != -1) with
    | true => exact sees_held_x w A0 c0 now mx ls hst0 k ver later who other _ h30 hl hk rfl ho h1 (h2 h1)
    | false => exact sees_free_x w A0 c0 now mx ls hst0 k ver later who other _ h30 hl hk rfl ho h1 (h2 h1) ((h3 ho).trans h1)
  | false =>
    cases ho : (ls[k].o != -1) with
    | true => exact sees_held_o w A0 c0 now mx ls hst0 k ver later who other _ h30 hl hk rfl ho h1
    | false => exact sees_free_o w A0 c0 now mx ls hst0 k ver later who other _ h30 hl hk rfl ho h1 ((h3 ho).trans h1)

end Go.Proofs.Ytkmdifngljdpeaa
