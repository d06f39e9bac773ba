/- stm.Idle. -/
import Derived.Test.YtngimbfojccikaaStSame4
import Derived.Deep.RegionHeld3
import Derived.Deep.DrawnRows
namespace Go.Proofs.Ytngimbfojccikaa
set_option linter.unusedSimpArgs false
open Go Go.RowKit
set_option linter.unusedVariables false
set_option maxRecDepth 100000

/-- Has a thread nothing left to do? -/
def idleL (pl : List (List (List Ac))) (m : Mm) (who : Int) : Bool :=
  decide (who < 0) || (decide ((pl.length : Int) ≤ who) || match m.T[who.toNat]?, pl[who.toNat]? with
    | some t, some txs => t.st == 0 && decide ((txs.length : Int) ≤ t.tx)
    | _, _ => false)

set_option maxHeartbeats 4000000 in
theorem Idle_any (words mx : Int) (pl : List (List (List Ac))) (pv : Value) (a : Ad) (m : Mm) (who : Int) (w : World) (hpl : PlV w pv pl) (hm : MemV w a m) (hT : m.T.length = pl.length) :
    Calls Try.prog 18 #[planV words mx pv, .agg (memCells a m).toArray, .int .i64 who] w fun e w' => e = .returned (.bool (idleL pl m who)) ∧ Below w.heap.size w w' := by
  obtain ⟨A, c, rfl, _, _⟩ := hpl.form
  have kX := Blk.new w 24 #[.int .i64 words, .int .i64 mx, .slice A pl.length c]
  have bX : Below w.heap.size w (w.alloc (.cells #[.int .i64 words, .int .i64 mx, .slice A pl.length c] 24)) := (Below.refl _ w).alloc (Nat.le_refl _) _
  have kY := Blk.new (w.alloc (.cells #[.int .i64 words, .int .i64 mx, .slice A pl.length c] 24)) 34 (memCells a m).toArray
  have kX := kX.keep (show Below _ _ ((w.alloc (.cells #[.int .i64 words, .int .i64 mx, .slice A pl.length c] 24)).alloc (.cells (memCells a m).toArray 34)) from (Below.refl _ _).alloc (Nat.le_refl _) _)
  have bY : Below w.heap.size w ((w.alloc (.cells #[.int .i64 words, .int .i64 mx, .slice A pl.length c] 24)).alloc (.cells (memCells a m).toArray 34)) := bX.alloc (by simp) _
  have hb0 : (w.alloc (.cells #[.int .i64 words, .int .i64 mx, .slice A pl.length c] 24)).heap.size = w.heap.size + 1 := by simp
  rw [hb0] at kY
  obtain ⟨w2, hw2⟩ : ∃ z, (w.alloc (.cells #[.int .i64 words, .int .i64 mx, .slice A pl.length c] 24)).alloc (.cells (memCells a m).toArray 34) = z := ⟨_, rfl⟩
  rw [hw2] at kX kY bY
  have HW := Lib.hid hw2
  have HB := Lib.hid bY
  have HK := Lib.hid kX
  have HKY := Lib.hid kY
  clear kX kY hw2 hb0 bX bY
  simp only [memCells, planV, hT] at HW HKY ⊢
  by_cases h0 : who < 0
  · rw [show idleL pl m who = true from by unfold idleL; rw [decide_eq_true h0]; rfl]
    clear hpl hm
    go_enter Try.func18, Try.ntmps18
    go_wp2_with fail
    go_ret
    refine ⟨rfl, ?_⟩
    rw [HW.out]
    exact HB.out
  have hd0 : decide (who < 0) = false := decide_eq_false h0
  obtain ⟨k, rfl⟩ : ∃ k : Nat, who = (k : Int) := ⟨who.toNat, by omega⟩
  by_cases h1 : pl.length ≤ k
  · have h1z : (pl.length : Int) ≤ (k : Int) := by omega
    rw [show idleL pl m (k : Int) = true from by unfold idleL; rw [hd0, decide_eq_true h1z]; rfl]
    have p2 : w2.cell? ⟨w.heap.size, 2, none⟩ = some (.slice A pl.length c) := by rw [HK.out.cell]; rfl
    have y4 : w2.cell? ⟨w.heap.size + 1, 4, none⟩ = some (.slice (some ⟨a.gT, 0, none⟩) pl.length a.cT) := by rw [HKY.out.cell]; rfl
    clear hpl hm
    generalize pl.length = n at *
    go_enter Try.func18, Try.ntmps18
    go_wp2_with fail
    go_ret
    refine ⟨rfl, ?_⟩
    rw [HW.out]
    exact HB.out
  have h1z : ¬ (pl.length : Int) ≤ (k : Int) := by omega
  have hkp : k < pl.length := by omega
  have hkT : k < m.T.length := by omega
  obtain ⟨txs, htxs⟩ : ∃ t, pl[k]? = some t := ⟨_, List.getElem?_eq_getElem hkp⟩
  obtain ⟨t, ht⟩ : ∃ t, m.T[k]? = some t := ⟨_, List.getElem?_eq_getElem hkT⟩
  have hs : idleL pl m (k : Int) = (t.st == 0 && decide ((txs.length : Int) ≤ t.tx)) := by
    unfold idleL
    rw [hd0, decide_eq_false h1z, Int.toNat_natCast, ht, htxs]; rfl
  rw [hs]
  obtain ⟨b1, o1, c1, A1, d1, e1, hb1, hm1, hc1, hT1⟩ := hpl.at_ htxs
  injection e1 with e1 _ e1c
  subst e1 e1c
  have hTc := hm.T
  obtain ⟨b2, o2, e2, hb2, hT2⟩ := Sl.pos encTx encTx_len hTc (by omega)
  injection e2 with e2
  injection e2 with e2b e2o e2s
  subst e2b e2o
  have htk : t = m.T[k] := by rw [List.getElem?_eq_getElem hkT] at ht; injection ht with ht; exact ht.symm
  have HC := Lib.hid (fun W (hb : Below w2.heap.size w2 W) => (show W.cell? ⟨w.heap.size, 2, none⟩ = some (.slice (some ⟨b1, o1, none⟩) pl.length c) ∧ W.cell? ⟨w.heap.size + 1, 4, none⟩ = some (.slice (some ⟨a.gT, 0, none⟩) pl.length a.cT) ∧ W.cell? ⟨b1, o1 + k, none⟩ = some (.slice A1 txs.length d1) ∧ W.cell? ⟨a.gT, k * 11, none⟩ = some (.int .i64 t.st) ∧ W.cell? ⟨a.gT, k * 11 + 1, none⟩ = some (.int .i64 t.tx) from
    ⟨by rw [(HK.out.keep hb).cell]; rfl, by rw [(HKY.out.keep hb).cell]; rfl, ((HB.out.trans (hb.mono HB.out.size)).cell (p := ⟨b1, o1 + k, none⟩) hb1).trans hc1, by have := hT2 W (HB.out.trans (hb.mono HB.out.size)) k hkT 0 _ rfl; rw [htk]; simpa using this, by have := hT2 W (HB.out.trans (hb.mono HB.out.size)) k hkT 1 _ rfl; rw [htk]; simpa using this⟩))
  obtain ⟨n, hn⟩ : ∃ n, n = pl.length := ⟨_, rfl⟩
  obtain ⟨n2, hn2⟩ : ∃ n, n = txs.length := ⟨_, rfl⟩
  have hlt : (k : Int) < (n : Int) := by omega
  have hge : (0 : Int) ≤ (k : Int) := by omega
  have hnlt : ¬ (n : Int) ≤ (k : Int) := by omega
  rw [← hn] at HC HW ⊢
  rw [← hn2] at HC ⊢
  clear hpl hm hT hTc hT2 hT1 hm1 hc1 htk ht htxs hs hn hn2 hkp hkT h1 h1z h0
  obtain ⟨x, hx⟩ : ∃ x, x = t.st := ⟨_, rfl⟩
  obtain ⟨y, hy⟩ : ∃ y, y = t.tx := ⟨_, rfl⟩
  rw [← hx, ← hy] at HC ⊢
  clear hx hy
  by_cases h0 : x = 0
  · subst h0
    have h0b : ((0 : Int) == 0) = true := rfl
    rw [show ((0 : Int) == 0 && decide ((n2 : Int) ≤ y)) = decide ((n2 : Int) ≤ y) from by simp]
    go_enter Try.func18, Try.ntmps18
    go_wp2_with fail
    rw [HW.out]
    refine wp_region_held_drew (S := fun W => W.cell? ⟨w.heap.size, 2, none⟩ = some (.slice (some ⟨b1, o1, none⟩) n c) ∧ W.cell? ⟨w.heap.size + 1, 4, none⟩ = some (.slice (some ⟨a.gT, 0, none⟩) n a.cT) ∧ W.cell? ⟨b1, o1 + k, none⟩ = some (.slice A1 n2 d1) ∧ W.cell? ⟨a.gT, k * 11, none⟩ = some (.int .i64 0) ∧ W.cell? ⟨a.gT, k * 11 + 1, none⟩ = some (.int .i64 y)) (by kernel_rfl) ?_ (fun hHeldbr => ?_)
    · exact HC.out _ ((Below.refl _ _).drew)
    refine wpAnyH_take (i := 0) (oi := { dst := some 20, op := Op.fieldAddr 34 (Operand.tmp 4) 2, type := 0, pos := "stm.go:247", after := _, guard := none }) (v := ?vbr0) rfl (by kernel_rfl) (by kernel_rfl) (by kernel_rfl) (fun _ _ _ h => h) (Or.inl ⟨by rfl, ?hybr0⟩) (by assumption) ?restbr0
    case hybr0 => (intro w hSw; (try dsimp only at hSw); go_simp <;> with_reducible rfl)
    try simp only [Act.put, List.setIfInBounds_toArray, List.set_cons_zero, List.set_cons_succ]
    refine wpAnyH_take (i := 1) (oi := { dst := some 21, op := Op.load 31 (Operand.tmp 20), type := 31, pos := "stm.go:247", after := _, guard := none }) (v := ?vbr1) rfl (by kernel_rfl) (by kernel_rfl) (by kernel_rfl) (fun _ _ _ h => h) (Or.inl ⟨by rfl, ?hybr1⟩) (by assumption) ?restbr1
    case hybr1 => (intro w hSw; (try dsimp only at hSw); go_simp <;> with_reducible rfl)
    try simp only [Act.put, List.setIfInBounds_toArray, List.set_cons_zero, List.set_cons_succ]
    refine wpAnyH_take (i := 2) (oi := { dst := some 22, op := Op.move (Operand.tmp 2), type := 3, pos := "stm.go:247", after := _, guard := none }) (v := ?vbr2) rfl (by kernel_rfl) (by kernel_rfl) (by kernel_rfl) (fun _ _ _ h => h) (Or.inl ⟨by rfl, ?hybr2⟩) (by assumption) ?restbr2
    case hybr2 => (intro w hSw; (try dsimp only at hSw); go_simp <;> with_reducible rfl)
    try simp only [Act.put, List.setIfInBounds_toArray, List.set_cons_zero, List.set_cons_succ]
    refine wpAnyH_take (i := 3) (oi := { dst := some 23, op := Op.indexAddr 31 (Operand.tmp 21) (Operand.tmp 22), type := 0, pos := "stm.go:247", after := _, guard := none }) (v := ?vbr3) rfl (by kernel_rfl) (by kernel_rfl) (by kernel_rfl) (fun _ _ _ h => h) (Or.inl ⟨by rfl, ?hybr3⟩) (by assumption) ?restbr3
    case hybr3 => (intro w hSw; (try dsimp only at hSw); go_simp <;> with_reducible rfl)
    try simp only [Act.put, List.setIfInBounds_toArray, List.set_cons_zero, List.set_cons_succ]
    refine wpAnyH_take (i := 4) (oi := { dst := some 24, op := Op.fieldAddr 46 (Operand.tmp 23) 0, type := 0, pos := "stm.go:247", after := _, guard := none }) (v := ?vbr4) rfl (by kernel_rfl) (by kernel_rfl) (by kernel_rfl) (fun _ _ _ h => h) (Or.inl ⟨by rfl, ?hybr4⟩) (by assumption) ?restbr4
    case hybr4 => (intro w hSw; (try dsimp only at hSw); go_simp <;> with_reducible rfl)
    try simp only [Act.put, List.setIfInBounds_toArray, List.set_cons_zero, List.set_cons_succ]
    refine wpAnyH_take (i := 5) (oi := { dst := some 25, op := Op.load 3 (Operand.tmp 24), type := 3, pos := "stm.go:247", after := _, guard := none }) (v := ?vbr5) rfl (by kernel_rfl) (by kernel_rfl) (by kernel_rfl) (fun _ _ _ h => h) (Or.inl ⟨by rfl, ?hybr5⟩) (by assumption) ?restbr5
    case hybr5 => (intro w hSw; (try dsimp only at hSw); go_simp <;> with_reducible rfl)
    try simp only [Act.put, List.setIfInBounds_toArray, List.set_cons_zero, List.set_cons_succ]
    refine wpAnyH_take (i := 6) (oi := { dst := some 26, op := Op.binOp BinOp.eql 3 (Operand.tmp 25) (Operand.const (Value.int IntKind.i64 0)) 3, type := 4, pos := "stm.go:247", after := _, guard := none }) (v := ?vbr6) rfl (by kernel_rfl) (by kernel_rfl) (by kernel_rfl) (fun _ _ _ h => h) (Or.inl ⟨by rfl, ?hybr6⟩) (by assumption) ?restbr6
    case hybr6 => (intro w hSw; (try dsimp only at hSw); go_simp <;> with_reducible rfl)
    try simp only [Act.put, List.setIfInBounds_toArray, List.set_cons_zero, List.set_cons_succ]
    refine wpAnyH_take (i := 7) (oi := { dst := some 27, op := Op.move (Operand.tmp 26), type := 4, pos := "stm.go:247", after := _, guard := none }) (v := ?vbr7) rfl (by kernel_rfl) (by kernel_rfl) (by kernel_rfl) (fun _ _ _ h => h) (Or.inl ⟨by rfl, ?hybr7⟩) (by assumption) ?restbr7
    case hybr7 => (intro w hSw; (try dsimp only at hSw); go_simp <;> with_reducible rfl)
    try simp only [Act.put, List.setIfInBounds_toArray, List.set_cons_zero, List.set_cons_succ]
    refine wpAnyH_take (i := 8) (oi := { dst := some 28, op := Op.fieldAddr 34 (Operand.tmp 4) 2, type := 0, pos := "stm.go:247", after := _, guard := some (7, true) }) (v := ?vbr8) rfl (by kernel_rfl) (by kernel_rfl) (by kernel_rfl) (fun _ _ _ h => h) (Or.inl ⟨by rfl, ?hybr8⟩) (by assumption) ?restbr8
    case hybr8 => (intro w hSw; (try dsimp only at hSw); go_simp <;> with_reducible rfl)
    try simp only [Act.put, List.setIfInBounds_toArray, List.set_cons_zero, List.set_cons_succ]
    refine wpAnyH_take (i := 9) (oi := { dst := some 29, op := Op.load 31 (Operand.tmp 28), type := 31, pos := "stm.go:247", after := _, guard := some (7, true) }) (v := ?vbr9) rfl (by kernel_rfl) (by kernel_rfl) (by kernel_rfl) (fun _ _ _ h => h) (Or.inl ⟨by rfl, ?hybr9⟩) (by assumption) ?restbr9
    case hybr9 => (intro w hSw; (try dsimp only at hSw); go_simp <;> with_reducible rfl)
    try simp only [Act.put, List.setIfInBounds_toArray, List.set_cons_zero, List.set_cons_succ]
    refine wpAnyH_take (i := 10) (oi := { dst := some 30, op := Op.move (Operand.tmp 2), type := 3, pos := "stm.go:247", after := _, guard := some (7, true) }) (v := ?vbr10) rfl (by kernel_rfl) (by kernel_rfl) (by kernel_rfl) (fun _ _ _ h => h) (Or.inl ⟨by rfl, ?hybr10⟩) (by assumption) ?restbr10
    case hybr10 => (intro w hSw; (try dsimp only at hSw); go_simp <;> with_reducible rfl)
    try simp only [Act.put, List.setIfInBounds_toArray, List.set_cons_zero, List.set_cons_succ]
    refine wpAnyH_take (i := 11) (oi := { dst := some 31, op := Op.indexAddr 31 (Operand.tmp 29) (Operand.tmp 30), type := 0, pos := "stm.go:247", after := _, guard := some (7, true) }) (v := ?vbr11) rfl (by kernel_rfl) (by kernel_rfl) (by kernel_rfl) (fun _ _ _ h => h) (Or.inl ⟨by rfl, ?hybr11⟩) (by assumption) ?restbr11
    case hybr11 => (intro w hSw; (try dsimp only at hSw); go_simp <;> with_reducible rfl)
    try simp only [Act.put, List.setIfInBounds_toArray, List.set_cons_zero, List.set_cons_succ]
    refine wpAnyH_take (i := 12) (oi := { dst := some 32, op := Op.fieldAddr 46 (Operand.tmp 31) 1, type := 0, pos := "stm.go:247", after := _, guard := some (7, true) }) (v := ?vbr12) rfl (by kernel_rfl) (by kernel_rfl) (by kernel_rfl) (fun _ _ _ h => h) (Or.inl ⟨by rfl, ?hybr12⟩) (by assumption) ?restbr12
    case hybr12 => (intro w hSw; (try dsimp only at hSw); go_simp <;> with_reducible rfl)
    try simp only [Act.put, List.setIfInBounds_toArray, List.set_cons_zero, List.set_cons_succ]
    refine wpAnyH_take (i := 13) (oi := { dst := some 33, op := Op.load 3 (Operand.tmp 32), type := 3, pos := "stm.go:247", after := _, guard := some (7, true) }) (v := ?vbr13) rfl (by kernel_rfl) (by kernel_rfl) (by kernel_rfl) (fun _ _ _ h => h) (Or.inl ⟨by rfl, ?hybr13⟩) (by assumption) ?restbr13
    case hybr13 => (intro w hSw; (try dsimp only at hSw); go_simp <;> with_reducible rfl)
    try simp only [Act.put, List.setIfInBounds_toArray, List.set_cons_zero, List.set_cons_succ]
    refine wpAnyH_take (i := 14) (oi := { dst := some 34, op := Op.fieldAddr 24 (Operand.tmp 3) 2, type := 0, pos := "stm.go:247", after := _, guard := some (7, true) }) (v := ?vbr14) rfl (by kernel_rfl) (by kernel_rfl) (by kernel_rfl) (fun _ _ _ h => h) (Or.inl ⟨by rfl, ?hybr14⟩) (by assumption) ?restbr14
    case hybr14 => (intro w hSw; (try dsimp only at hSw); go_simp <;> with_reducible rfl)
    try simp only [Act.put, List.setIfInBounds_toArray, List.set_cons_zero, List.set_cons_succ]
    refine wpAnyH_take (i := 15) (oi := { dst := some 35, op := Op.load 22 (Operand.tmp 34), type := 22, pos := "stm.go:247", after := _, guard := some (7, true) }) (v := ?vbr15) rfl (by kernel_rfl) (by kernel_rfl) (by kernel_rfl) (fun _ _ _ h => h) (Or.inl ⟨by rfl, ?hybr15⟩) (by assumption) ?restbr15
    case hybr15 => (intro w hSw; (try dsimp only at hSw); go_simp <;> with_reducible rfl)
    try simp only [Act.put, List.setIfInBounds_toArray, List.set_cons_zero, List.set_cons_succ]
    refine wpAnyH_take (i := 16) (oi := { dst := some 36, op := Op.move (Operand.tmp 2), type := 3, pos := "stm.go:247", after := _, guard := some (7, true) }) (v := ?vbr16) rfl (by kernel_rfl) (by kernel_rfl) (by kernel_rfl) (fun _ _ _ h => h) (Or.inl ⟨by rfl, ?hybr16⟩) (by assumption) ?restbr16
    case hybr16 => (intro w hSw; (try dsimp only at hSw); go_simp <;> with_reducible rfl)
    try simp only [Act.put, List.setIfInBounds_toArray, List.set_cons_zero, List.set_cons_succ]
    refine wpAnyH_take (i := 17) (oi := { dst := some 37, op := Op.indexAddr 22 (Operand.tmp 35) (Operand.tmp 36), type := 0, pos := "stm.go:247", after := _, guard := some (7, true) }) (v := ?vbr17) rfl (by kernel_rfl) (by kernel_rfl) (by kernel_rfl) (fun _ _ _ h => h) (Or.inl ⟨by rfl, ?hybr17⟩) (by assumption) ?restbr17
    case hybr17 => (intro w hSw; (try dsimp only at hSw); go_simp <;> with_reducible rfl)
    try simp only [Act.put, List.setIfInBounds_toArray, List.set_cons_zero, List.set_cons_succ]
    refine wpAnyH_take (i := 18) (oi := { dst := some 38, op := Op.load 47 (Operand.tmp 37), type := 47, pos := "stm.go:247", after := _, guard := some (7, true) }) (v := ?vbr18) rfl (by kernel_rfl) (by kernel_rfl) (by kernel_rfl) (fun _ _ _ h => h) (Or.inl ⟨by rfl, ?hybr18⟩) (by assumption) ?restbr18
    case hybr18 => (intro w hSw; (try dsimp only at hSw); go_simp <;> with_reducible rfl)
    try simp only [Act.put, List.setIfInBounds_toArray, List.set_cons_zero, List.set_cons_succ]
    refine wpAnyH_take (i := 19) (oi := { dst := some 39, op := Op.call { callee := Callee.builtin Builtin.len, args := #[Operand.tmp 38], argTypes := #[47] }, type := 3, pos := "stm.go:247", after := _, guard := some (7, true) }) (v := ?vbr19) rfl (by kernel_rfl) (by kernel_rfl) (by kernel_rfl) (fun _ _ _ h => h) (Or.inl ⟨by rfl, ?hybr19⟩) (by assumption) ?restbr19
    case hybr19 => (intro w hSw; (try dsimp only at hSw); go_simp <;> with_reducible rfl)
    try simp only [Act.put, List.setIfInBounds_toArray, List.set_cons_zero, List.set_cons_succ]
    refine wpAnyH_take (i := 20) (oi := { dst := some 40, op := Op.binOp BinOp.geq 3 (Operand.tmp 33) (Operand.tmp 39) 3, type := 4, pos := "stm.go:247", after := _, guard := some (7, true) }) (v := ?vbr20) rfl (by kernel_rfl) (by kernel_rfl) (by kernel_rfl) (fun _ _ _ h => h) (Or.inl ⟨by rfl, ?hybr20⟩) (by assumption) ?restbr20
    case hybr20 => (intro w hSw; (try dsimp only at hSw); go_simp <;> with_reducible rfl)
    try simp only [Act.put, List.setIfInBounds_toArray, List.set_cons_zero, List.set_cons_succ]
    refine wpAnyH_take (i := 21) (oi := { dst := some 41, op := Op.pick (Operand.tmp 27) (Operand.tmp 40) (Operand.const (Value.bool false)), type := 4, pos := "stm.go:247", after := _, guard := none }) (v := ?vbr21) rfl (by kernel_rfl) (by kernel_rfl) (by kernel_rfl) (fun _ _ _ h => h) (Or.inl ⟨by rfl, ?hybr21⟩) (by assumption) ?restbr21
    case hybr21 => (intro w hSw; (try dsimp only at hSw); go_simp <;> with_reducible rfl)
    try simp only [Act.put, List.setIfInBounds_toArray, List.set_cons_zero, List.set_cons_succ]
    refine wpAnyH_take (i := 22) (oi := { dst := some 6, op := Op.assign (Operand.tmp 41), type := 4, pos := "stm.go:247", after := _, guard := none }) (v := ?vbr22) rfl (by kernel_rfl) (by kernel_rfl) (by kernel_rfl) (fun _ _ _ h => h) (Or.inl ⟨by rfl, ?hybr22⟩) (by assumption) ?restbr22
    case hybr22 => (intro w hSw; (try dsimp only at hSw); go_simp <;> with_reducible rfl)
    try simp only [Act.put, List.setIfInBounds_toArray, List.set_cons_zero, List.set_cons_succ]
    refine wpAnyH_done (by kernel_rfl) ?_ _
    go_wp2_with fail
    go_ret
    exact ⟨rfl, HB.out.drew⟩
  · have h0b : (x == 0) = false := by simp [h0]
    rw [show (x == 0 && decide ((n2 : Int) ≤ y)) = false from by simp [h0]]
    go_enter Try.func18, Try.ntmps18
    go_wp2_with fail
    rw [HW.out]
    refine wp_region_held_drew (S := fun W => W.cell? ⟨w.heap.size, 2, none⟩ = some (.slice (some ⟨b1, o1, none⟩) n c) ∧ W.cell? ⟨w.heap.size + 1, 4, none⟩ = some (.slice (some ⟨a.gT, 0, none⟩) n a.cT) ∧ W.cell? ⟨b1, o1 + k, none⟩ = some (.slice A1 n2 d1) ∧ W.cell? ⟨a.gT, k * 11, none⟩ = some (.int .i64 x) ∧ W.cell? ⟨a.gT, k * 11 + 1, none⟩ = some (.int .i64 y)) (by kernel_rfl) ?_ (fun hHeldcr => ?_)
    · exact HC.out _ ((Below.refl _ _).drew)
    refine wpAnyH_take (i := 0) (oi := { dst := some 20, op := Op.fieldAddr 34 (Operand.tmp 4) 2, type := 0, pos := "stm.go:247", after := _, guard := none }) (v := ?vcr0) rfl (by kernel_rfl) (by kernel_rfl) (by kernel_rfl) (fun _ _ _ h => h) (Or.inl ⟨by rfl, ?hycr0⟩) (by assumption) ?restcr0
    case hycr0 => (intro w hSw; (try dsimp only at hSw); go_simp <;> with_reducible rfl)
    try simp only [Act.put, List.setIfInBounds_toArray, List.set_cons_zero, List.set_cons_succ]
    refine wpAnyH_take (i := 1) (oi := { dst := some 21, op := Op.load 31 (Operand.tmp 20), type := 31, pos := "stm.go:247", after := _, guard := none }) (v := ?vcr1) rfl (by kernel_rfl) (by kernel_rfl) (by kernel_rfl) (fun _ _ _ h => h) (Or.inl ⟨by rfl, ?hycr1⟩) (by assumption) ?restcr1
    case hycr1 => (intro w hSw; (try dsimp only at hSw); go_simp <;> with_reducible rfl)
    try simp only [Act.put, List.setIfInBounds_toArray, List.set_cons_zero, List.set_cons_succ]
    refine wpAnyH_take (i := 2) (oi := { dst := some 22, op := Op.move (Operand.tmp 2), type := 3, pos := "stm.go:247", after := _, guard := none }) (v := ?vcr2) rfl (by kernel_rfl) (by kernel_rfl) (by kernel_rfl) (fun _ _ _ h => h) (Or.inl ⟨by rfl, ?hycr2⟩) (by assumption) ?restcr2
    case hycr2 => (intro w hSw; (try dsimp only at hSw); go_simp <;> with_reducible rfl)
    try simp only [Act.put, List.setIfInBounds_toArray, List.set_cons_zero, List.set_cons_succ]
    refine wpAnyH_take (i := 3) (oi := { dst := some 23, op := Op.indexAddr 31 (Operand.tmp 21) (Operand.tmp 22), type := 0, pos := "stm.go:247", after := _, guard := none }) (v := ?vcr3) rfl (by kernel_rfl) (by kernel_rfl) (by kernel_rfl) (fun _ _ _ h => h) (Or.inl ⟨by rfl, ?hycr3⟩) (by assumption) ?restcr3
    case hycr3 => (intro w hSw; (try dsimp only at hSw); go_simp <;> with_reducible rfl)
    try simp only [Act.put, List.setIfInBounds_toArray, List.set_cons_zero, List.set_cons_succ]
    refine wpAnyH_take (i := 4) (oi := { dst := some 24, op := Op.fieldAddr 46 (Operand.tmp 23) 0, type := 0, pos := "stm.go:247", after := _, guard := none }) (v := ?vcr4) rfl (by kernel_rfl) (by kernel_rfl) (by kernel_rfl) (fun _ _ _ h => h) (Or.inl ⟨by rfl, ?hycr4⟩) (by assumption) ?restcr4
    case hycr4 => (intro w hSw; (try dsimp only at hSw); go_simp <;> with_reducible rfl)
    try simp only [Act.put, List.setIfInBounds_toArray, List.set_cons_zero, List.set_cons_succ]
    refine wpAnyH_take (i := 5) (oi := { dst := some 25, op := Op.load 3 (Operand.tmp 24), type := 3, pos := "stm.go:247", after := _, guard := none }) (v := ?vcr5) rfl (by kernel_rfl) (by kernel_rfl) (by kernel_rfl) (fun _ _ _ h => h) (Or.inl ⟨by rfl, ?hycr5⟩) (by assumption) ?restcr5
    case hycr5 => (intro w hSw; (try dsimp only at hSw); go_simp <;> with_reducible rfl)
    try simp only [Act.put, List.setIfInBounds_toArray, List.set_cons_zero, List.set_cons_succ]
    refine wpAnyH_take (i := 6) (oi := { dst := some 26, op := Op.binOp BinOp.eql 3 (Operand.tmp 25) (Operand.const (Value.int IntKind.i64 0)) 3, type := 4, pos := "stm.go:247", after := _, guard := none }) (v := ?vcr6) rfl (by kernel_rfl) (by kernel_rfl) (by kernel_rfl) (fun _ _ _ h => h) (Or.inl ⟨by rfl, ?hycr6⟩) (by assumption) ?restcr6
    case hycr6 => (intro w hSw; (try dsimp only at hSw); go_simp <;> with_reducible rfl)
    try simp only [Act.put, List.setIfInBounds_toArray, List.set_cons_zero, List.set_cons_succ]
    refine wpAnyH_take (i := 7) (oi := { dst := some 27, op := Op.move (Operand.tmp 26), type := 4, pos := "stm.go:247", after := _, guard := none }) (v := ?vcr7) rfl (by kernel_rfl) (by kernel_rfl) (by kernel_rfl) (fun _ _ _ h => h) (Or.inl ⟨by rfl, ?hycr7⟩) (by assumption) ?restcr7
    case hycr7 => (intro w hSw; (try dsimp only at hSw); go_simp <;> with_reducible rfl)
    try simp only [Act.put, List.setIfInBounds_toArray, List.set_cons_zero, List.set_cons_succ]
    refine wpAnyH_take (i := 8) (oi := { dst := some 28, op := Op.fieldAddr 34 (Operand.tmp 4) 2, type := 0, pos := "stm.go:247", after := _, guard := some (7, true) }) rfl (by kernel_rfl) (by kernel_rfl) (by kernel_rfl) (fun _ _ _ h => h) (Or.inr ⟨by rfl, rfl⟩) (by assumption) ?_
    try simp only [Act.put, List.setIfInBounds_toArray, List.set_cons_zero, List.set_cons_succ]
    refine wpAnyH_take (i := 9) (oi := { dst := some 29, op := Op.load 31 (Operand.tmp 28), type := 31, pos := "stm.go:247", after := _, guard := some (7, true) }) rfl (by kernel_rfl) (by kernel_rfl) (by kernel_rfl) (fun _ _ _ h => h) (Or.inr ⟨by rfl, rfl⟩) (by assumption) ?_
    try simp only [Act.put, List.setIfInBounds_toArray, List.set_cons_zero, List.set_cons_succ]
    refine wpAnyH_take (i := 10) (oi := { dst := some 30, op := Op.move (Operand.tmp 2), type := 3, pos := "stm.go:247", after := _, guard := some (7, true) }) rfl (by kernel_rfl) (by kernel_rfl) (by kernel_rfl) (fun _ _ _ h => h) (Or.inr ⟨by rfl, rfl⟩) (by assumption) ?_
    try simp only [Act.put, List.setIfInBounds_toArray, List.set_cons_zero, List.set_cons_succ]
    refine wpAnyH_take (i := 11) (oi := { dst := some 31, op := Op.indexAddr 31 (Operand.tmp 29) (Operand.tmp 30), type := 0, pos := "stm.go:247", after := _, guard := some (7, true) }) rfl (by kernel_rfl) (by kernel_rfl) (by kernel_rfl) (fun _ _ _ h => h) (Or.inr ⟨by rfl, rfl⟩) (by assumption) ?_
    try simp only [Act.put, List.setIfInBounds_toArray, List.set_cons_zero, List.set_cons_succ]
    refine wpAnyH_take (i := 12) (oi := { dst := some 32, op := Op.fieldAddr 46 (Operand.tmp 31) 1, type := 0, pos := "stm.go:247", after := _, guard := some (7, true) }) rfl (by kernel_rfl) (by kernel_rfl) (by kernel_rfl) (fun _ _ _ h => h) (Or.inr ⟨by rfl, rfl⟩) (by assumption) ?_
    try simp only [Act.put, List.setIfInBounds_toArray, List.set_cons_zero, List.set_cons_succ]
    refine wpAnyH_take (i := 13) (oi := { dst := some 33, op := Op.load 3 (Operand.tmp 32), type := 3, pos := "stm.go:247", after := _, guard := some (7, true) }) rfl (by kernel_rfl) (by kernel_rfl) (by kernel_rfl) (fun _ _ _ h => h) (Or.inr ⟨by rfl, rfl⟩) (by assumption) ?_
    try simp only [Act.put, List.setIfInBounds_toArray, List.set_cons_zero, List.set_cons_succ]
    refine wpAnyH_take (i := 14) (oi := { dst := some 34, op := Op.fieldAddr 24 (Operand.tmp 3) 2, type := 0, pos := "stm.go:247", after := _, guard := some (7, true) }) rfl (by kernel_rfl) (by kernel_rfl) (by kernel_rfl) (fun _ _ _ h => h) (Or.inr ⟨by rfl, rfl⟩) (by assumption) ?_
    try simp only [Act.put, List.setIfInBounds_toArray, List.set_cons_zero, List.set_cons_succ]
    refine wpAnyH_take (i := 15) (oi := { dst := some 35, op := Op.load 22 (Operand.tmp 34), type := 22, pos := "stm.go:247", after := _, guard := some (7, true) }) rfl (by kernel_rfl) (by kernel_rfl) (by kernel_rfl) (fun _ _ _ h => h) (Or.inr ⟨by rfl, rfl⟩) (by assumption) ?_
    try simp only [Act.put, List.setIfInBounds_toArray, List.set_cons_zero, List.set_cons_succ]
    refine wpAnyH_take (i := 16) (oi := { dst := some 36, op := Op.move (Operand.tmp 2), type := 3, pos := "stm.go:247", after := _, guard := some (7, true) }) rfl (by kernel_rfl) (by kernel_rfl) (by kernel_rfl) (fun _ _ _ h => h) (Or.inr ⟨by rfl, rfl⟩) (by assumption) ?_
    try simp only [Act.put, List.setIfInBounds_toArray, List.set_cons_zero, List.set_cons_succ]
    refine wpAnyH_take (i := 17) (oi := { dst := some 37, op := Op.indexAddr 22 (Operand.tmp 35) (Operand.tmp 36), type := 0, pos := "stm.go:247", after := _, guard := some (7, true) }) rfl (by kernel_rfl) (by kernel_rfl) (by kernel_rfl) (fun _ _ _ h => h) (Or.inr ⟨by rfl, rfl⟩) (by assumption) ?_
    try simp only [Act.put, List.setIfInBounds_toArray, List.set_cons_zero, List.set_cons_succ]
    refine wpAnyH_take (i := 18) (oi := { dst := some 38, op := Op.load 47 (Operand.tmp 37), type := 47, pos := "stm.go:247", after := _, guard := some (7, true) }) rfl (by kernel_rfl) (by kernel_rfl) (by kernel_rfl) (fun _ _ _ h => h) (Or.inr ⟨by rfl, rfl⟩) (by assumption) ?_
    try simp only [Act.put, List.setIfInBounds_toArray, List.set_cons_zero, List.set_cons_succ]
    refine wpAnyH_take (i := 19) (oi := { dst := some 39, op := Op.call { callee := Callee.builtin Builtin.len, args := #[Operand.tmp 38], argTypes := #[47] }, type := 3, pos := "stm.go:247", after := _, guard := some (7, true) }) rfl (by kernel_rfl) (by kernel_rfl) (by kernel_rfl) (fun _ _ _ h => h) (Or.inr ⟨by rfl, rfl⟩) (by assumption) ?_
    try simp only [Act.put, List.setIfInBounds_toArray, List.set_cons_zero, List.set_cons_succ]
    refine wpAnyH_take (i := 20) (oi := { dst := some 40, op := Op.binOp BinOp.geq 3 (Operand.tmp 33) (Operand.tmp 39) 3, type := 4, pos := "stm.go:247", after := _, guard := some (7, true) }) rfl (by kernel_rfl) (by kernel_rfl) (by kernel_rfl) (fun _ _ _ h => h) (Or.inr ⟨by rfl, rfl⟩) (by assumption) ?_
    try simp only [Act.put, List.setIfInBounds_toArray, List.set_cons_zero, List.set_cons_succ]
    refine wpAnyH_take (i := 21) (oi := { dst := some 41, op := Op.pick (Operand.tmp 27) (Operand.tmp 40) (Operand.const (Value.bool false)), type := 4, pos := "stm.go:247", after := _, guard := none }) (v := ?vcr21) rfl (by kernel_rfl) (by kernel_rfl) (by kernel_rfl) (fun _ _ _ h => h) (Or.inl ⟨by rfl, ?hycr21⟩) (by assumption) ?restcr21
    case hycr21 => (intro w hSw; (try dsimp only at hSw); go_simp <;> with_reducible rfl)
    try simp only [Act.put, List.setIfInBounds_toArray, List.set_cons_zero, List.set_cons_succ]
    refine wpAnyH_take (i := 22) (oi := { dst := some 6, op := Op.assign (Operand.tmp 41), type := 4, pos := "stm.go:247", after := _, guard := none }) (v := ?vcr22) rfl (by kernel_rfl) (by kernel_rfl) (by kernel_rfl) (fun _ _ _ h => h) (Or.inl ⟨by rfl, ?hycr22⟩) (by assumption) ?restcr22
    case hycr22 => (intro w hSw; (try dsimp only at hSw); go_simp <;> with_reducible rfl)
    try simp only [Act.put, List.setIfInBounds_toArray, List.set_cons_zero, List.set_cons_succ]
    refine wpAnyH_done (by kernel_rfl) ?_ _
    go_wp2_with fail
    go_ret
    exact ⟨rfl, HB.out.drew⟩
end Go.Proofs.Ytngimbfojccikaa
