/- step: one of a thread. -/
import Derived.Test.YtmcbnpeihedcaaaStWork
import Derived.Test.YtmcbnpeihedcaaaStKept
namespace Go.Proofs.Ytmcbnpeihedcaaa
set_option linter.unusedSimpArgs false
open Go Go.RowKit
set_option linter.unusedVariables false
set_option maxRecDepth 100000

theorem setCells_blk {g : Nat} {t : TypeId} : ∀ (us : List Value) (o : Nat) (w : World) (cur : Array Value), Blk w g t cur → o + us.length ≤ cur.size → Blk (w.setCells g o us) g t (cur.toList.take o ++ us ++ cur.toList.drop (o + us.length)).toArray
  | [], o, w, cur, h, _ => by simpa [World.setCells] using h
  | u :: us, o, w, cur, h, hs => by
    rw [World.setCells]
    have h1 := setCells_blk us (o + 1) _ _ (h.set_ o u) (by simp at hs ⊢; omega)
    have hol : o < cur.toList.length := by simp at hs ⊢; omega
    have e : (cur.setIfInBounds o u).toList.take (o + 1) ++ us ++ (cur.setIfInBounds o u).toList.drop (o + 1 + us.length) = cur.toList.take o ++ (u :: us) ++ cur.toList.drop (o + (u :: us).length) := by
      rw [Array.toList_setIfInBounds, List.take_succ_eq_append_getElem (by rw [List.length_set]; exact hol), List.getElem_set_self, List.take_set_of_le (by omega), List.drop_set_of_lt (by omega)]
      simp [Nat.add_assoc, Nat.add_comm 1]
    rw [e] at h1
    exact h1
theorem setCells_below {B g : Nat} {w0 : World} (hg : B ≤ g) : ∀ (us : List Value) (o : Nat) (w : World), Below B w0 w → Below B w0 (w.setCells g o us)
  | [], _, _, h => h
  | u :: us, o, w, h => by rw [World.setCells]; exact setCells_below hg us (o + 1) _ (h.setCell hg u)
/-- A whole value stored into a block that was just laid. -/
theorem wpList_store_new {P : Program} {ops : Array Oper} {rest : List Oper} {o : Oper} {a : Act} {Q : Exit → Act → World → Prop} {w1 : World} {zs : Array Value} {t : TypeId} (hgd : o.guard = none) (ty : TypeId) (x y : Operand) (ho : o.op = .store ty x y) (cs : Array Value)
    (hx : a.eval x = .pointer (some ⟨w1.heap.size, 0, none⟩)) (hy : a.eval y = .agg cs) (hz : zs.size = cs.size) (hi : (P.info? ty).map (·.size) = some cs.size) (h1 : cs.all (·.oneCell') = true)
    (kk : ∀ w2, Blk w2 w1.heap.size t cs → Below w1.heap.size w1 w2 → wpList P ops Q rest (a.put o.dst undef) w2) : wpList P ops Q (o :: rest) a (w1.alloc (.cells zs t)) := by
  have hB : Blk (w1.alloc (.cells zs t)) w1.heap.size t zs := Blk.new _ _ _
  refine wpList_store_mid hgd ty x y ho w1.heap.size 0 cs hx hy (fun j hj => ⟨?_, hB.free _⟩) hi h1 (kk _ ?_ (setCells_below (Nat.le_refl _) _ _ _ ((Below.refl _ _).alloc (Nat.le_refl _) _)))
  · rw [hB.cell, Nat.zero_add, Array.getElem?_eq_getElem (by omega)]; rfl
  · have h2 := setCells_blk cs.toList 0 _ _ hB (by simp; omega)
    have e : (zs.toList.take 0 ++ cs.toList ++ zs.toList.drop (0 + cs.toList.length)).toArray = cs := by
      rw [List.take_zero, List.nil_append, List.drop_of_length_le (by simp; omega), List.append_nil]
    rw [e] at h2
    exact h2
theorem ways_size : (Try.prog.info? 86).map (·.size) = some 6 := by kernel_rfl

section
variable {w0 w w' : World} {r : Nat} {φ : Nat → Nat} {a : Ad} {m : Mm} {pw pm : Int} {pv : Value}

/-- What step leaves. -/
def StepPost (w0 : World) (r : Nat) (m' : Mm) (pw pm : Int) (pv : Value) (who : Int) (e : Ending) (w' : World) : Prop :=
  e = .returned (.tuple #[]) ∧ ∃ φ' a' m2, RunW w0 w' r φ' a' m2 pw pm pv who ∧ m2.er = m'.er

theorem RunW.setWho {who0 : Int} (h : RunW w0 w r φ a m pw pm pv who0) (who : Int) : RunW w0 (w.setCell ⟨r, 10, none⟩ (.int .i64 who)) r φ a m pw pm pv who :=
  h.rcell rfl rfl rfl rfl rfl

set_option maxHeartbeats 4000000 in
theorem step_neg {who0 : Int} (h : RunW w0 w r φ a m pw pm pv who0) (who : Int) (h0 : who < 0) :
    Calls Try.prog 28 #[.pointer (some ⟨r, 0, none⟩), .int .i64 who] w (StepPost w0 r m pw pm pv who) := by
  have c10 : w.cell? ⟨r, 10, none⟩ = some (.int .i64 who0) := h.rcells 10
  have f10 := h.run.free 10
  have HR := Lib.hid (h.setWho who)
  clear h
  go_enter Try.func28, Try.ntmps28
  go_wp2_with fail
  refine wp_region_held_drew (S := fun _ => True) (by kernel_rfl) ?_ (fun hHeldbr => ?_)
  · trivial
  refine tkW 0 { dst := some 9, op := Op.move (Operand.tmp 1), type := 3, pos := "stm.go:204", after := _, guard := none } (v := ?vbr0) rfl (Or.inl ⟨by rfl, ?hybr0⟩) ?restbr0
  case hybr0 => (intro w hSw; (try dsimp only at hSw); go_simp <;> with_reducible rfl)
  try simp only [putW, setZ, setS]
  refine tkW 1 { dst := some 10, op := Op.binOp BinOp.lss 3 (Operand.tmp 9) (Operand.const (Value.int IntKind.i64 0)) 3, type := 4, pos := "stm.go:204", after := _, guard := none } (v := .bool true) rfl (Or.inl ⟨by rfl, ?hybr1⟩) ?restbr1
  case hybr1 => (intro w hSw; (try dsimp only at hSw); go_simp <;> first | done | with_reducible rfl | omega | (simp; done) | (simp; omega) | (simp [*]; done) | (simp [*]; omega) | exact decide_eq_false (by omega) | exact decide_eq_true (by omega))
  try simp only [putW, setZ, setS]
  refine tkW 2 { dst := some 11, op := Op.move (Operand.tmp 10), type := 4, pos := "stm.go:204", after := _, guard := none } (v := ?vbr2) rfl (Or.inl ⟨by rfl, ?hybr2⟩) ?restbr2
  case hybr2 => (intro w hSw; (try dsimp only at hSw); go_simp <;> with_reducible rfl)
  try simp only [putW, setZ, setS]
  refine tkW 3 { dst := some 12, op := Op.move (Operand.tmp 1), type := 3, pos := "stm.go:204", after := _, guard := some (2, false) } rfl (Or.inr ⟨by rfl, rfl⟩) ?_
  try simp only [putW, setZ, setS]
  refine tkW 4 { dst := some 13, op := Op.move (Operand.tmp 0), type := 68, pos := "stm.go:204", after := _, guard := some (2, false) } rfl (Or.inr ⟨by rfl, rfl⟩) ?_
  try simp only [putW, setZ, setS]
  refine tkW 5 { dst := some 14, op := Op.nilCheck (Operand.tmp 13), type := 0, pos := "stm.go:204", after := _, guard := some (2, false) } rfl (Or.inr ⟨by rfl, rfl⟩) ?_
  try simp only [putW, setZ, setS]
  refine tkW 6 { dst := some 15, op := Op.fieldAddr 70 (Operand.tmp 14) 0, type := 0, pos := "stm.go:204", after := _, guard := some (2, false) } rfl (Or.inr ⟨by rfl, rfl⟩) ?_
  try simp only [putW, setZ, setS]
  refine tkW 7 { dst := some 16, op := Op.fieldAddr 46 (Operand.tmp 15) 2, type := 0, pos := "stm.go:204", after := _, guard := some (2, false) } rfl (Or.inr ⟨by rfl, rfl⟩) ?_
  try simp only [putW, setZ, setS]
  refine tkW 8 { dst := some 17, op := Op.load 44 (Operand.tmp 16), type := 44, pos := "stm.go:204", after := _, guard := some (2, false) } rfl (Or.inr ⟨by rfl, rfl⟩) ?_
  try simp only [putW, setZ, setS]
  refine tkW 9 { dst := some 18, op := Op.call { callee := Callee.builtin Builtin.len, args := #[Operand.tmp 17], argTypes := #[44] }, type := 3, pos := "stm.go:204", after := _, guard := some (2, false) } rfl (Or.inr ⟨by rfl, rfl⟩) ?_
  try simp only [putW, setZ, setS]
  refine tkW 10 { dst := some 19, op := Op.binOp BinOp.geq 3 (Operand.tmp 12) (Operand.tmp 18) 3, type := 4, pos := "stm.go:204", after := _, guard := some (2, false) } rfl (Or.inr ⟨by rfl, rfl⟩) ?_
  try simp only [putW, setZ, setS]
  refine tkW 11 { dst := some 20, op := Op.pick (Operand.tmp 11) (Operand.const (Value.bool true)) (Operand.tmp 19), type := 4, pos := "stm.go:204", after := _, guard := none } (v := ?vbr11) rfl (Or.inl ⟨by rfl, ?hybr11⟩) ?restbr11
  case hybr11 => (intro w hSw; (try dsimp only at hSw); go_simp <;> with_reducible rfl)
  try simp only [putW, setZ, setS]
  refine tkW 12 { dst := some 21, op := Op.move (Operand.tmp 20), type := 4, pos := "stm.go:204", after := _, guard := none } (v := ?vbr12) rfl (Or.inl ⟨by rfl, ?hybr12⟩) ?restbr12
  case hybr12 => (intro w hSw; (try dsimp only at hSw); go_simp <;> with_reducible rfl)
  try simp only [putW, setZ, setS]
  refine tkW 13 { dst := some 22, op := Op.move (Operand.tmp 0), type := 68, pos := "stm.go:204", after := _, guard := some (12, false) } rfl (Or.inr ⟨by rfl, rfl⟩) ?_
  try simp only [putW, setZ, setS]
  refine tkW 14 { dst := some 23, op := Op.call { callee := Callee.value (Operand.func 41), args := #[Operand.tmp 22], argTypes := #[68] }, type := 84, pos := "stm.go:204", after := _, guard := some (12, false) } rfl (Or.inr ⟨by rfl, rfl⟩) ?_
  try simp only [putW, setZ, setS]
  refine tkW 15 { dst := some 24, op := Op.nilCheck (Operand.tmp 23), type := 0, pos := "stm.go:204", after := _, guard := some (12, false) } rfl (Or.inr ⟨by rfl, rfl⟩) ?_
  try simp only [putW, setZ, setS]
  refine tkW 16 { dst := some 25, op := Op.fieldAddr 52 (Operand.tmp 24) 1, type := 0, pos := "stm.go:204", after := _, guard := some (12, false) } rfl (Or.inr ⟨by rfl, rfl⟩) ?_
  try simp only [putW, setZ, setS]
  refine tkW 17 { dst := some 26, op := Op.load 3 (Operand.tmp 25), type := 3, pos := "stm.go:204", after := _, guard := some (12, false) } rfl (Or.inr ⟨by rfl, rfl⟩) ?_
  try simp only [putW, setZ, setS]
  refine tkW 18 { dst := some 27, op := Op.move (Operand.tmp 0), type := 68, pos := "stm.go:204", after := _, guard := some (12, false) } rfl (Or.inr ⟨by rfl, rfl⟩) ?_
  try simp only [putW, setZ, setS]
  refine tkW 19 { dst := some 28, op := Op.nilCheck (Operand.tmp 27), type := 0, pos := "stm.go:204", after := _, guard := some (12, false) } rfl (Or.inr ⟨by rfl, rfl⟩) ?_
  try simp only [putW, setZ, setS]
  refine tkW 20 { dst := some 29, op := Op.fieldAddr 70 (Operand.tmp 28) 1, type := 0, pos := "stm.go:204", after := _, guard := some (12, false) } rfl (Or.inr ⟨by rfl, rfl⟩) ?_
  try simp only [putW, setZ, setS]
  refine tkW 21 { dst := some 30, op := Op.fieldAddr 39 (Operand.tmp 29) 2, type := 0, pos := "stm.go:204", after := _, guard := some (12, false) } rfl (Or.inr ⟨by rfl, rfl⟩) ?_
  try simp only [putW, setZ, setS]
  refine tkW 22 { dst := some 31, op := Op.load 37 (Operand.tmp 30), type := 37, pos := "stm.go:204", after := _, guard := some (12, false) } rfl (Or.inr ⟨by rfl, rfl⟩) ?_
  try simp only [putW, setZ, setS]
  refine tkW 23 { dst := some 32, op := Op.move (Operand.tmp 1), type := 3, pos := "stm.go:204", after := _, guard := some (12, false) } rfl (Or.inr ⟨by rfl, rfl⟩) ?_
  try simp only [putW, setZ, setS]
  refine tkW 24 { dst := some 33, op := Op.indexAddr 37 (Operand.tmp 31) (Operand.tmp 32), type := 0, pos := "stm.go:204", after := _, guard := some (12, false) } rfl (Or.inr ⟨by rfl, rfl⟩) ?_
  try simp only [putW, setZ, setS]
  refine tkW 25 { dst := some 34, op := Op.load 63 (Operand.tmp 33), type := 63, pos := "stm.go:204", after := _, guard := some (12, false) } rfl (Or.inr ⟨by rfl, rfl⟩) ?_
  try simp only [putW, setZ, setS]
  refine tkW 26 { dst := some 35, op := Op.call { callee := Callee.builtin Builtin.len, args := #[Operand.tmp 34], argTypes := #[63] }, type := 3, pos := "stm.go:204", after := _, guard := some (12, false) } rfl (Or.inr ⟨by rfl, rfl⟩) ?_
  try simp only [putW, setZ, setS]
  refine tkW 27 { dst := some 36, op := Op.binOp BinOp.geq 3 (Operand.tmp 26) (Operand.tmp 35) 3, type := 4, pos := "stm.go:204", after := _, guard := some (12, false) } rfl (Or.inr ⟨by rfl, rfl⟩) ?_
  try simp only [putW, setZ, setS]
  refine tkW 28 { dst := some 37, op := Op.pick (Operand.tmp 21) (Operand.const (Value.bool true)) (Operand.tmp 36), type := 4, pos := "stm.go:204", after := _, guard := none } (v := ?vbr28) rfl (Or.inl ⟨by rfl, ?hybr28⟩) ?restbr28
  case hybr28 => (intro w hSw; (try dsimp only at hSw); go_simp <;> with_reducible rfl)
  try simp only [putW, setZ, setS]
  refine wpAnyH_done (by kernel_rfl) ?_ _
  go_wp2
  refine bodyPost_ret (results_none rfl _ _ _) rfl ?_
  exact ⟨rfl, _, _, _, HR.out.keep (Below.refl _ _).drew, rfl⟩

set_option maxHeartbeats 4000000 in
theorem step_out {who0 : Int} (h : RunW w0 w r φ a m pw pm pv who0) (who : Int) (h0 : 0 ≤ who) (h1 : (m.T.length : Int) ≤ who) :
    Calls Try.prog 28 #[.pointer (some ⟨r, 0, none⟩), .int .i64 who] w (StepPost w0 r m pw pm pv who) := by
  have c10 : w.cell? ⟨r, 10, none⟩ = some (.int .i64 who0) := h.rcells 10
  have c4 : w.cell? ⟨r, 4, none⟩ = some (.slice (some ⟨a.gT, 0, none⟩) m.T.length a.cT) := h.rcells 4
  have f10 := h.run.free 10
  have HR := Lib.hid (h.setWho who)
  have h0' : ¬ who < 0 := by omega
  clear h
  generalize m.T.length = n at *
  go_enter Try.func28, Try.ntmps28
  go_wp2_with fail
  refine wp_region_held_drew (S := fun W => W.cell? ⟨r, 4, none⟩ = some (.slice (some ⟨a.gT, 0, none⟩) n a.cT)) (by kernel_rfl) ?_ (fun hHeldcr => ?_)
  · go_simp
  refine tkW 0 { dst := some 9, op := Op.move (Operand.tmp 1), type := 3, pos := "stm.go:204", after := _, guard := none } (v := ?vcr0) rfl (Or.inl ⟨by rfl, ?hycr0⟩) ?restcr0
  case hycr0 => (intro w hSw; (try dsimp only at hSw); go_simp <;> with_reducible rfl)
  try simp only [putW, setZ, setS]
  refine tkW 1 { dst := some 10, op := Op.binOp BinOp.lss 3 (Operand.tmp 9) (Operand.const (Value.int IntKind.i64 0)) 3, type := 4, pos := "stm.go:204", after := _, guard := none } (v := .bool false) rfl (Or.inl ⟨by rfl, ?hycr1⟩) ?restcr1
  case hycr1 => (intro w hSw; (try dsimp only at hSw); go_simp <;> first | done | with_reducible rfl | omega | (simp; done) | (simp; omega) | (simp [*]; done) | (simp [*]; omega) | exact decide_eq_false (by omega) | exact decide_eq_true (by omega))
  try simp only [putW, setZ, setS]
  refine tkW 2 { dst := some 11, op := Op.move (Operand.tmp 10), type := 4, pos := "stm.go:204", after := _, guard := none } (v := ?vcr2) rfl (Or.inl ⟨by rfl, ?hycr2⟩) ?restcr2
  case hycr2 => (intro w hSw; (try dsimp only at hSw); go_simp <;> with_reducible rfl)
  try simp only [putW, setZ, setS]
  refine tkW 3 { dst := some 12, op := Op.move (Operand.tmp 1), type := 3, pos := "stm.go:204", after := _, guard := some (2, false) } (v := ?vcr3) rfl (Or.inl ⟨by rfl, ?hycr3⟩) ?restcr3
  case hycr3 => (intro w hSw; (try dsimp only at hSw); go_simp <;> with_reducible rfl)
  try simp only [putW, setZ, setS]
  refine tkW 4 { dst := some 13, op := Op.move (Operand.tmp 0), type := 68, pos := "stm.go:204", after := _, guard := some (2, false) } (v := ?vcr4) rfl (Or.inl ⟨by rfl, ?hycr4⟩) ?restcr4
  case hycr4 => (intro w hSw; (try dsimp only at hSw); go_simp <;> with_reducible rfl)
  try simp only [putW, setZ, setS]
  refine tkW 5 { dst := some 14, op := Op.nilCheck (Operand.tmp 13), type := 0, pos := "stm.go:204", after := _, guard := some (2, false) } (v := ?vcr5) rfl (Or.inl ⟨by rfl, ?hycr5⟩) ?restcr5
  case hycr5 => (intro w hSw; (try dsimp only at hSw); go_simp <;> with_reducible rfl)
  try simp only [putW, setZ, setS]
  refine tkW 6 { dst := some 15, op := Op.fieldAddr 70 (Operand.tmp 14) 0, type := 0, pos := "stm.go:204", after := _, guard := some (2, false) } (v := ?vcr6) rfl (Or.inl ⟨by rfl, ?hycr6⟩) ?restcr6
  case hycr6 => (intro w hSw; (try dsimp only at hSw); go_simp <;> with_reducible rfl)
  try simp only [putW, setZ, setS]
  refine tkW 7 { dst := some 16, op := Op.fieldAddr 46 (Operand.tmp 15) 2, type := 0, pos := "stm.go:204", after := _, guard := some (2, false) } (v := ?vcr7) rfl (Or.inl ⟨by rfl, ?hycr7⟩) ?restcr7
  case hycr7 => (intro w hSw; (try dsimp only at hSw); go_simp <;> with_reducible rfl)
  try simp only [putW, setZ, setS]
  refine tkW 8 { dst := some 17, op := Op.load 44 (Operand.tmp 16), type := 44, pos := "stm.go:204", after := _, guard := some (2, false) } (v := ?vcr8) rfl (Or.inl ⟨by rfl, ?hycr8⟩) ?restcr8
  case hycr8 => (intro w hSw; (try dsimp only at hSw); go_simp <;> with_reducible rfl)
  try simp only [putW, setZ, setS]
  refine tkW 9 { dst := some 18, op := Op.call { callee := Callee.builtin Builtin.len, args := #[Operand.tmp 17], argTypes := #[44] }, type := 3, pos := "stm.go:204", after := _, guard := some (2, false) } (v := ?vcr9) rfl (Or.inl ⟨by rfl, ?hycr9⟩) ?restcr9
  case hycr9 => (intro w hSw; (try dsimp only at hSw); go_simp <;> with_reducible rfl)
  try simp only [putW, setZ, setS]
  refine tkW 10 { dst := some 19, op := Op.binOp BinOp.geq 3 (Operand.tmp 12) (Operand.tmp 18) 3, type := 4, pos := "stm.go:204", after := _, guard := some (2, false) } (v := .bool true) rfl (Or.inl ⟨by rfl, ?hycr10⟩) ?restcr10
  case hycr10 => (intro w hSw; (try dsimp only at hSw); go_simp <;> first | done | with_reducible rfl | omega | (simp; done) | (simp; omega) | (simp [*]; done) | (simp [*]; omega) | exact decide_eq_false (by omega) | exact decide_eq_true (by omega))
  try simp only [putW, setZ, setS]
  refine tkW 11 { dst := some 20, op := Op.pick (Operand.tmp 11) (Operand.const (Value.bool true)) (Operand.tmp 19), type := 4, pos := "stm.go:204", after := _, guard := none } (v := ?vcr11) rfl (Or.inl ⟨by rfl, ?hycr11⟩) ?restcr11
  case hycr11 => (intro w hSw; (try dsimp only at hSw); go_simp <;> with_reducible rfl)
  try simp only [putW, setZ, setS]
  refine tkW 12 { dst := some 21, op := Op.move (Operand.tmp 20), type := 4, pos := "stm.go:204", after := _, guard := none } (v := ?vcr12) rfl (Or.inl ⟨by rfl, ?hycr12⟩) ?restcr12
  case hycr12 => (intro w hSw; (try dsimp only at hSw); go_simp <;> with_reducible rfl)
  try simp only [putW, setZ, setS]
  refine tkW 13 { dst := some 22, op := Op.move (Operand.tmp 0), type := 68, pos := "stm.go:204", after := _, guard := some (12, false) } rfl (Or.inr ⟨by rfl, rfl⟩) ?_
  try simp only [putW, setZ, setS]
  refine tkW 14 { dst := some 23, op := Op.call { callee := Callee.value (Operand.func 41), args := #[Operand.tmp 22], argTypes := #[68] }, type := 84, pos := "stm.go:204", after := _, guard := some (12, false) } rfl (Or.inr ⟨by rfl, rfl⟩) ?_
  try simp only [putW, setZ, setS]
  refine tkW 15 { dst := some 24, op := Op.nilCheck (Operand.tmp 23), type := 0, pos := "stm.go:204", after := _, guard := some (12, false) } rfl (Or.inr ⟨by rfl, rfl⟩) ?_
  try simp only [putW, setZ, setS]
  refine tkW 16 { dst := some 25, op := Op.fieldAddr 52 (Operand.tmp 24) 1, type := 0, pos := "stm.go:204", after := _, guard := some (12, false) } rfl (Or.inr ⟨by rfl, rfl⟩) ?_
  try simp only [putW, setZ, setS]
  refine tkW 17 { dst := some 26, op := Op.load 3 (Operand.tmp 25), type := 3, pos := "stm.go:204", after := _, guard := some (12, false) } rfl (Or.inr ⟨by rfl, rfl⟩) ?_
  try simp only [putW, setZ, setS]
  refine tkW 18 { dst := some 27, op := Op.move (Operand.tmp 0), type := 68, pos := "stm.go:204", after := _, guard := some (12, false) } rfl (Or.inr ⟨by rfl, rfl⟩) ?_
  try simp only [putW, setZ, setS]
  refine tkW 19 { dst := some 28, op := Op.nilCheck (Operand.tmp 27), type := 0, pos := "stm.go:204", after := _, guard := some (12, false) } rfl (Or.inr ⟨by rfl, rfl⟩) ?_
  try simp only [putW, setZ, setS]
  refine tkW 20 { dst := some 29, op := Op.fieldAddr 70 (Operand.tmp 28) 1, type := 0, pos := "stm.go:204", after := _, guard := some (12, false) } rfl (Or.inr ⟨by rfl, rfl⟩) ?_
  try simp only [putW, setZ, setS]
  refine tkW 21 { dst := some 30, op := Op.fieldAddr 39 (Operand.tmp 29) 2, type := 0, pos := "stm.go:204", after := _, guard := some (12, false) } rfl (Or.inr ⟨by rfl, rfl⟩) ?_
  try simp only [putW, setZ, setS]
  refine tkW 22 { dst := some 31, op := Op.load 37 (Operand.tmp 30), type := 37, pos := "stm.go:204", after := _, guard := some (12, false) } rfl (Or.inr ⟨by rfl, rfl⟩) ?_
  try simp only [putW, setZ, setS]
  refine tkW 23 { dst := some 32, op := Op.move (Operand.tmp 1), type := 3, pos := "stm.go:204", after := _, guard := some (12, false) } rfl (Or.inr ⟨by rfl, rfl⟩) ?_
  try simp only [putW, setZ, setS]
  refine tkW 24 { dst := some 33, op := Op.indexAddr 37 (Operand.tmp 31) (Operand.tmp 32), type := 0, pos := "stm.go:204", after := _, guard := some (12, false) } rfl (Or.inr ⟨by rfl, rfl⟩) ?_
  try simp only [putW, setZ, setS]
  refine tkW 25 { dst := some 34, op := Op.load 63 (Operand.tmp 33), type := 63, pos := "stm.go:204", after := _, guard := some (12, false) } rfl (Or.inr ⟨by rfl, rfl⟩) ?_
  try simp only [putW, setZ, setS]
  refine tkW 26 { dst := some 35, op := Op.call { callee := Callee.builtin Builtin.len, args := #[Operand.tmp 34], argTypes := #[63] }, type := 3, pos := "stm.go:204", after := _, guard := some (12, false) } rfl (Or.inr ⟨by rfl, rfl⟩) ?_
  try simp only [putW, setZ, setS]
  refine tkW 27 { dst := some 36, op := Op.binOp BinOp.geq 3 (Operand.tmp 26) (Operand.tmp 35) 3, type := 4, pos := "stm.go:204", after := _, guard := some (12, false) } rfl (Or.inr ⟨by rfl, rfl⟩) ?_
  try simp only [putW, setZ, setS]
  refine tkW 28 { dst := some 37, op := Op.pick (Operand.tmp 21) (Operand.const (Value.bool true)) (Operand.tmp 36), type := 4, pos := "stm.go:204", after := _, guard := none } (v := ?vcr28) rfl (Or.inl ⟨by rfl, ?hycr28⟩) ?restcr28
  case hycr28 => (intro w hSw; (try dsimp only at hSw); go_simp <;> with_reducible rfl)
  try simp only [putW, setZ, setS]
  refine wpAnyH_done (by kernel_rfl) ?_ _
  go_wp2
  refine bodyPost_ret (results_none rfl _ _ _) rfl ?_
  exact ⟨rfl, _, _, _, HR.out.keep (Below.refl _ _).drew, rfl⟩

set_option maxHeartbeats 4000000 in
theorem step_idle {who0 : Int} (h : RunW w0 w r φ a m pw pm pv who0) {k : Nat} {t : Tx} (hk : m.T[k]? = some t) {pl : List (List (List Ac))} (hpl : PlV w0 pv pl) {txs : List (List Ac)} (htxs : pl[k]? = some txs) (x : Nat) (htx : t.tx = (x : Int)) (hx : txs.length ≤ x) :
    Calls Try.prog 28 #[.pointer (some ⟨r, 0, none⟩), .int .i64 (k : Int)] w (StepPost w0 r m pw pm pv (k : Int)) := by
  have hpw := hpl.below (h.setWho (k : Int)).base
  obtain ⟨b1, o1, c1, A1, d1, e1, hb1, hm1, hc1, hT1⟩ := hpw.at_ htxs
  have HR := Lib.hid (h.setWho (k : Int))
  have HK := Lib.hid hk
  have c10 : w.cell? ⟨r, 10, none⟩ = some (.int .i64 who0) := h.rcells 10
  have f10 := h.run.free 10
  have hlt := h.tlt hk
  have hkp : k < pl.length := (List.getElem?_eq_some_iff.1 htxs).1
  obtain ⟨n1, hn1⟩ : ∃ n, n = pl.length := ⟨_, rfl⟩
  obtain ⟨n2, hn2⟩ : ∃ n, n = txs.length := ⟨_, rfl⟩
  obtain ⟨n, hn⟩ : ∃ n, n = m.T.length := ⟨_, rfl⟩
  rw [← hn1] at e1
  rw [← hn2] at hc1
  have HC := Lib.hid (fun W (hb : Below (w.setCell ⟨r, 10, none⟩ (.int .i64 (k : Int))).heap.size (w.setCell ⟨r, 10, none⟩ (.int .i64 (k : Int))) W) => (show W.cell? ⟨r, 4, none⟩ = some (.slice (some ⟨a.gT, 0, none⟩) n a.cT) ∧ W.cell? ⟨r, 9, none⟩ = some (.slice (some ⟨b1, o1, none⟩) n1 c1) ∧ W.cell? ⟨b1, o1 + k, none⟩ = some (.slice A1 n2 d1) ∧ W.cell? ⟨a.gT, k * 11 + 1, none⟩ = some (.int .i64 (x : Int)) from
    ⟨by rw [hn]; exact (HR.out.keep hb).rcells 4, by rw [← e1]; exact (HR.out.keep hb).rcells 9, (hb.cell (p := ⟨b1, o1 + k, none⟩) hb1).trans hc1, by rw [← htx]; exact (HR.out.keep hb).tcells HK.out (j := 1) rfl⟩))
  have HME := Lib.hid (fun W (hb : Below (w.setCell ⟨r, 10, none⟩ (.int .i64 (k : Int))).heap.size (w.setCell ⟨r, 10, none⟩ (.int .i64 (k : Int))) W) => me_any (HR.out.keep hb) HK.out)
  have hk0 : (0 : Int) ≤ (k : Int) := by omega
  have hk0' : ¬ (k : Int) < 0 := by omega
  have hk1 : (k : Int) < (n1 : Int) := by omega
  have hkn : ¬ (n : Int) ≤ (k : Int) := by omega
  have hx0 : (0 : Int) ≤ (x : Int) := by omega
  have hxz : (n2 : Int) ≤ (x : Int) := by omega
  clear h hk hpl htxs htx hpw hb1 hm1 hc1 hT1 e1 hn1 hn2 hn hkp hlt hx
  go_enter Try.func28, Try.ntmps28
  go_wp2_with fail
  refine wp_region_held_drew (S := fun W => W.cell? ⟨r, 4, none⟩ = some (.slice (some ⟨a.gT, 0, none⟩) n a.cT) ∧ W.cell? ⟨r, 9, none⟩ = some (.slice (some ⟨b1, o1, none⟩) n1 c1) ∧ W.cell? ⟨b1, o1 + k, none⟩ = some (.slice A1 n2 d1) ∧ W.cell? ⟨a.gT, k * 11 + 1, none⟩ = some (.int .i64 (x : Int))) (by kernel_rfl) ?_ (fun hHelddr => ?_)
  · exact HC.out _ (Below.refl _ _).drew
  refine tkW 0 { dst := some 9, op := Op.move (Operand.tmp 1), type := 3, pos := "stm.go:204", after := _, guard := none } (v := ?vdr0) rfl (Or.inl ⟨by rfl, ?hydr0⟩) ?restdr0
  case hydr0 => (intro w hSw; (try dsimp only at hSw); go_simp <;> with_reducible rfl)
  try simp only [putW, setZ, setS]
  refine tkW 1 { dst := some 10, op := Op.binOp BinOp.lss 3 (Operand.tmp 9) (Operand.const (Value.int IntKind.i64 0)) 3, type := 4, pos := "stm.go:204", after := _, guard := none } (v := .bool false) rfl (Or.inl ⟨by rfl, ?hydr1⟩) ?restdr1
  case hydr1 => (intro w hSw; (try dsimp only at hSw); go_simp <;> first | done | with_reducible rfl | omega | (simp; done) | (simp; omega) | (simp [*]; done) | (simp [*]; omega) | exact decide_eq_false (by omega) | exact decide_eq_true (by omega))
  try simp only [putW, setZ, setS]
  refine tkW 2 { dst := some 11, op := Op.move (Operand.tmp 10), type := 4, pos := "stm.go:204", after := _, guard := none } (v := ?vdr2) rfl (Or.inl ⟨by rfl, ?hydr2⟩) ?restdr2
  case hydr2 => (intro w hSw; (try dsimp only at hSw); go_simp <;> with_reducible rfl)
  try simp only [putW, setZ, setS]
  refine tkW 3 { dst := some 12, op := Op.move (Operand.tmp 1), type := 3, pos := "stm.go:204", after := _, guard := some (2, false) } (v := ?vdr3) rfl (Or.inl ⟨by rfl, ?hydr3⟩) ?restdr3
  case hydr3 => (intro w hSw; (try dsimp only at hSw); go_simp <;> with_reducible rfl)
  try simp only [putW, setZ, setS]
  refine tkW 4 { dst := some 13, op := Op.move (Operand.tmp 0), type := 68, pos := "stm.go:204", after := _, guard := some (2, false) } (v := ?vdr4) rfl (Or.inl ⟨by rfl, ?hydr4⟩) ?restdr4
  case hydr4 => (intro w hSw; (try dsimp only at hSw); go_simp <;> with_reducible rfl)
  try simp only [putW, setZ, setS]
  refine tkW 5 { dst := some 14, op := Op.nilCheck (Operand.tmp 13), type := 0, pos := "stm.go:204", after := _, guard := some (2, false) } (v := ?vdr5) rfl (Or.inl ⟨by rfl, ?hydr5⟩) ?restdr5
  case hydr5 => (intro w hSw; (try dsimp only at hSw); go_simp <;> with_reducible rfl)
  try simp only [putW, setZ, setS]
  refine tkW 6 { dst := some 15, op := Op.fieldAddr 70 (Operand.tmp 14) 0, type := 0, pos := "stm.go:204", after := _, guard := some (2, false) } (v := ?vdr6) rfl (Or.inl ⟨by rfl, ?hydr6⟩) ?restdr6
  case hydr6 => (intro w hSw; (try dsimp only at hSw); go_simp <;> with_reducible rfl)
  try simp only [putW, setZ, setS]
  refine tkW 7 { dst := some 16, op := Op.fieldAddr 46 (Operand.tmp 15) 2, type := 0, pos := "stm.go:204", after := _, guard := some (2, false) } (v := ?vdr7) rfl (Or.inl ⟨by rfl, ?hydr7⟩) ?restdr7
  case hydr7 => (intro w hSw; (try dsimp only at hSw); go_simp <;> with_reducible rfl)
  try simp only [putW, setZ, setS]
  refine tkW 8 { dst := some 17, op := Op.load 44 (Operand.tmp 16), type := 44, pos := "stm.go:204", after := _, guard := some (2, false) } (v := ?vdr8) rfl (Or.inl ⟨by rfl, ?hydr8⟩) ?restdr8
  case hydr8 => (intro w hSw; (try dsimp only at hSw); go_simp <;> with_reducible rfl)
  try simp only [putW, setZ, setS]
  refine tkW 9 { dst := some 18, op := Op.call { callee := Callee.builtin Builtin.len, args := #[Operand.tmp 17], argTypes := #[44] }, type := 3, pos := "stm.go:204", after := _, guard := some (2, false) } (v := ?vdr9) rfl (Or.inl ⟨by rfl, ?hydr9⟩) ?restdr9
  case hydr9 => (intro w hSw; (try dsimp only at hSw); go_simp <;> with_reducible rfl)
  try simp only [putW, setZ, setS]
  refine tkW 10 { dst := some 19, op := Op.binOp BinOp.geq 3 (Operand.tmp 12) (Operand.tmp 18) 3, type := 4, pos := "stm.go:204", after := _, guard := some (2, false) } (v := .bool false) rfl (Or.inl ⟨by rfl, ?hydr10⟩) ?restdr10
  case hydr10 => (intro w hSw; (try dsimp only at hSw); go_simp <;> first | done | with_reducible rfl | omega | (simp; done) | (simp; omega) | (simp [*]; done) | (simp [*]; omega) | exact decide_eq_false (by omega) | exact decide_eq_true (by omega))
  try simp only [putW, setZ, setS]
  refine tkW 11 { dst := some 20, op := Op.pick (Operand.tmp 11) (Operand.const (Value.bool true)) (Operand.tmp 19), type := 4, pos := "stm.go:204", after := _, guard := none } (v := ?vdr11) rfl (Or.inl ⟨by rfl, ?hydr11⟩) ?restdr11
  case hydr11 => (intro w hSw; (try dsimp only at hSw); go_simp <;> with_reducible rfl)
  try simp only [putW, setZ, setS]
  refine tkW 12 { dst := some 21, op := Op.move (Operand.tmp 20), type := 4, pos := "stm.go:204", after := _, guard := none } (v := ?vdr12) rfl (Or.inl ⟨by rfl, ?hydr12⟩) ?restdr12
  case hydr12 => (intro w hSw; (try dsimp only at hSw); go_simp <;> with_reducible rfl)
  try simp only [putW, setZ, setS]
  refine tkW 13 { dst := some 22, op := Op.move (Operand.tmp 0), type := 68, pos := "stm.go:204", after := _, guard := some (12, false) } (v := ?vdr13) rfl (Or.inl ⟨by rfl, ?hydr13⟩) ?restdr13
  case hydr13 => (intro w hSw; (try dsimp only at hSw); go_simp <;> with_reducible rfl)
  try simp only [putW, setZ, setS]
  refine tkW 18 { dst := some 27, op := Op.move (Operand.tmp 0), type := 68, pos := "stm.go:204", after := _, guard := some (12, false) } (v := ?vdr18) rfl (Or.inl ⟨by rfl, ?hydr18⟩) ?restdr18
  case hydr18 => (intro w hSw; (try dsimp only at hSw); go_simp <;> with_reducible rfl)
  try simp only [putW, setZ, setS]
  refine tkW 19 { dst := some 28, op := Op.nilCheck (Operand.tmp 27), type := 0, pos := "stm.go:204", after := _, guard := some (12, false) } (v := ?vdr19) rfl (Or.inl ⟨by rfl, ?hydr19⟩) ?restdr19
  case hydr19 => (intro w hSw; (try dsimp only at hSw); go_simp <;> with_reducible rfl)
  try simp only [putW, setZ, setS]
  refine tkW 20 { dst := some 29, op := Op.fieldAddr 70 (Operand.tmp 28) 1, type := 0, pos := "stm.go:204", after := _, guard := some (12, false) } (v := ?vdr20) rfl (Or.inl ⟨by rfl, ?hydr20⟩) ?restdr20
  case hydr20 => (intro w hSw; (try dsimp only at hSw); go_simp <;> with_reducible rfl)
  try simp only [putW, setZ, setS]
  refine tkW 21 { dst := some 30, op := Op.fieldAddr 39 (Operand.tmp 29) 2, type := 0, pos := "stm.go:204", after := _, guard := some (12, false) } (v := ?vdr21) rfl (Or.inl ⟨by rfl, ?hydr21⟩) ?restdr21
  case hydr21 => (intro w hSw; (try dsimp only at hSw); go_simp <;> with_reducible rfl)
  try simp only [putW, setZ, setS]
  refine tkW 22 { dst := some 31, op := Op.load 37 (Operand.tmp 30), type := 37, pos := "stm.go:204", after := _, guard := some (12, false) } (v := ?vdr22) rfl (Or.inl ⟨by rfl, ?hydr22⟩) ?restdr22
  case hydr22 => (intro w hSw; (try dsimp only at hSw); go_simp <;> with_reducible rfl)
  try simp only [putW, setZ, setS]
  refine tkW 23 { dst := some 32, op := Op.move (Operand.tmp 1), type := 3, pos := "stm.go:204", after := _, guard := some (12, false) } (v := ?vdr23) rfl (Or.inl ⟨by rfl, ?hydr23⟩) ?restdr23
  case hydr23 => (intro w hSw; (try dsimp only at hSw); go_simp <;> with_reducible rfl)
  try simp only [putW, setZ, setS]
  refine tkW 24 { dst := some 33, op := Op.indexAddr 37 (Operand.tmp 31) (Operand.tmp 32), type := 0, pos := "stm.go:204", after := _, guard := some (12, false) } (v := ?vdr24) rfl (Or.inl ⟨by rfl, ?hydr24⟩) ?restdr24
  case hydr24 => (intro w hSw; (try dsimp only at hSw); go_simp <;> with_reducible rfl)
  try simp only [putW, setZ, setS]
  refine tkW 25 { dst := some 34, op := Op.load 63 (Operand.tmp 33), type := 63, pos := "stm.go:204", after := _, guard := some (12, false) } (v := ?vdr25) rfl (Or.inl ⟨by rfl, ?hydr25⟩) ?restdr25
  case hydr25 => (intro w hSw; (try dsimp only at hSw); go_simp <;> with_reducible rfl)
  try simp only [putW, setZ, setS]
  refine tkW 26 { dst := some 35, op := Op.call { callee := Callee.builtin Builtin.len, args := #[Operand.tmp 34], argTypes := #[63] }, type := 3, pos := "stm.go:204", after := _, guard := some (12, false) } (v := ?vdr26) rfl (Or.inl ⟨by rfl, ?hydr26⟩) ?restdr26
  case hydr26 => (intro w hSw; (try dsimp only at hSw); go_simp <;> with_reducible rfl)
  try simp only [putW, setZ, setS]
  refine wpAnyH_ready (rs := [14]) (by kernel_rfl) (by simp) ?_
  refine AllReadyH.cons (o := { dst := some 23, op := Op.call { callee := Callee.value (Operand.func 41), args := #[Operand.tmp 22], argTypes := #[68] }, type := 84, pos := "stm.go:204", after := _, guard := some (12, false) }) rfl (fun K hK => ?_) AllReadyH.nil
  go_simp
  refine (HME.out _ (Below.refl _ _).drew).mono ?_
  rintro e w1 ⟨rfl, hb1'⟩
  have HB1 := Lib.hid ((Below.refl _ _).drew.trans hb1')
  clear hb1'
  try go_wp2_with fail
  refine hK.out _ _ ?_ (fun hHelddr14 => ?_)
  · exact HC.out _ HB1.out
  clear hK K hHelddr
  try simp only [Act.put, List.setIfInBounds_toArray, List.set_cons_zero, List.set_cons_succ]
  refine tkW 15 { dst := some 24, op := Op.nilCheck (Operand.tmp 23), type := 0, pos := "stm.go:204", after := _, guard := some (12, false) } (v := ?vdr15) rfl (Or.inl ⟨by rfl, ?hydr15⟩) ?restdr15
  case hydr15 => (intro w hSw; (try dsimp only at hSw); go_simp <;> with_reducible rfl)
  try simp only [putW, setZ, setS]
  refine tkW 16 { dst := some 25, op := Op.fieldAddr 52 (Operand.tmp 24) 1, type := 0, pos := "stm.go:204", after := _, guard := some (12, false) } (v := ?vdr16) rfl (Or.inl ⟨by rfl, ?hydr16⟩) ?restdr16
  case hydr16 => (intro w hSw; (try dsimp only at hSw); go_simp <;> with_reducible rfl)
  try simp only [putW, setZ, setS]
  refine tkW 17 { dst := some 26, op := Op.load 3 (Operand.tmp 25), type := 3, pos := "stm.go:204", after := _, guard := some (12, false) } (v := ?vdr17) rfl (Or.inl ⟨by rfl, ?hydr17⟩) ?restdr17
  case hydr17 => (intro w hSw; (try dsimp only at hSw); go_simp <;> with_reducible rfl)
  try simp only [putW, setZ, setS]
  refine tkW 27 { dst := some 36, op := Op.binOp BinOp.geq 3 (Operand.tmp 26) (Operand.tmp 35) 3, type := 4, pos := "stm.go:204", after := _, guard := some (12, false) } (v := .bool true) rfl (Or.inl ⟨by rfl, ?hydr27⟩) ?restdr27
  case hydr27 => (intro w hSw; (try dsimp only at hSw); go_simp <;> first | done | with_reducible rfl | omega | (simp; done) | (simp; omega) | (simp [*]; done) | (simp [*]; omega) | exact decide_eq_false (by omega) | exact decide_eq_true (by omega))
  try simp only [putW, setZ, setS]
  refine tkW 28 { dst := some 37, op := Op.pick (Operand.tmp 21) (Operand.const (Value.bool true)) (Operand.tmp 36), type := 4, pos := "stm.go:204", after := _, guard := none } (v := ?vdr28) rfl (Or.inl ⟨by rfl, ?hydr28⟩) ?restdr28
  case hydr28 => (intro w hSw; (try dsimp only at hSw); go_simp <;> with_reducible rfl)
  try simp only [putW, setZ, setS]
  refine wpAnyH_done (by kernel_rfl) ?_ _

  go_wp2
  refine bodyPost_ret (results_none rfl _ _ _) rfl ?_
  exact ⟨rfl, _, _, _, HR.out.keep HB1.out, rfl⟩

set_option maxHeartbeats 4000000 in
theorem step_begin {who0 : Int} (h : RunW w0 w r φ a m pw pm pv who0) {k : Nat} {t : Tx} (hk : m.T[k]? = some t) {pl : List (List (List Ac))} (hpl : PlV w0 pv pl) {txs : List (List Ac)} (htxs : pl[k]? = some txs) (x : Nat) (htx : t.tx = (x : Int)) (hx : x < txs.length) (hst : t.st = 0) {mm : Mm}
    (HM : ∀ W a', RunW w0 W r φ a m pw pm pv (k : Int) → a' = a → Calls Try.prog 42 #[.pointer (some ⟨r, 0, none⟩)] W (DonePost w0 r a mm k pw pm pv)) :
    Calls Try.prog 28 #[.pointer (some ⟨r, 0, none⟩), .int .i64 (k : Int)] w (StepPost w0 r mm pw pm pv (k : Int)) := by
  have hpw := hpl.below (h.setWho (k : Int)).base
  obtain ⟨b1, o1, c1, A1, d1, e1, hb1, hm1, hc1, hT1⟩ := hpw.at_ htxs
  have HR := Lib.hid (h.setWho (k : Int))
  have HK := Lib.hid hk
  have c10 : w.cell? ⟨r, 10, none⟩ = some (.int .i64 who0) := h.rcells 10
  have f10 := h.run.free 10
  have hlt := h.tlt hk
  have hkp : k < pl.length := (List.getElem?_eq_some_iff.1 htxs).1
  obtain ⟨n1, hn1⟩ : ∃ n, n = pl.length := ⟨_, rfl⟩
  obtain ⟨n2, hn2⟩ : ∃ n, n = txs.length := ⟨_, rfl⟩
  obtain ⟨n, hn⟩ : ∃ n, n = m.T.length := ⟨_, rfl⟩
  rw [← hn1] at e1
  rw [← hn2] at hc1
  have HC := Lib.hid (fun W (hb : Below (w.setCell ⟨r, 10, none⟩ (.int .i64 (k : Int))).heap.size (w.setCell ⟨r, 10, none⟩ (.int .i64 (k : Int))) W) => (show W.cell? ⟨r, 4, none⟩ = some (.slice (some ⟨a.gT, 0, none⟩) n a.cT) ∧ W.cell? ⟨r, 9, none⟩ = some (.slice (some ⟨b1, o1, none⟩) n1 c1) ∧ W.cell? ⟨b1, o1 + k, none⟩ = some (.slice A1 n2 d1) ∧ W.cell? ⟨a.gT, k * 11 + 1, none⟩ = some (.int .i64 (x : Int)) from
    ⟨by rw [hn]; exact (HR.out.keep hb).rcells 4, by rw [← e1]; exact (HR.out.keep hb).rcells 9, (hb.cell (p := ⟨b1, o1 + k, none⟩) hb1).trans hc1, by rw [← htx]; exact (HR.out.keep hb).tcells HK.out (j := 1) rfl⟩))
  have HME := Lib.hid (fun W (hb : Below (w.setCell ⟨r, 10, none⟩ (.int .i64 (k : Int))).heap.size (w.setCell ⟨r, 10, none⟩ (.int .i64 (k : Int))) W) => me_any (HR.out.keep hb) HK.out)
  have hk0 : (0 : Int) ≤ (k : Int) := by omega
  have hk0' : ¬ (k : Int) < 0 := by omega
  have hk1 : (k : Int) < (n1 : Int) := by omega
  have hkn : ¬ (n : Int) ≤ (k : Int) := by omega
  have hx0 : (0 : Int) ≤ (x : Int) := by omega
  have hxz : ¬ (n2 : Int) ≤ (x : Int) := by omega
  have HMM := Lib.hid HM
  have HC0 := Lib.hid (fun W (hb : Below (w.setCell ⟨r, 10, none⟩ (.int .i64 (k : Int))).heap.size (w.setCell ⟨r, 10, none⟩ (.int .i64 (k : Int))) W) => (show W.cell? ⟨a.gT, k * 11, none⟩ = some (.int .i64 0) from by have e := (HR.out.keep hb).tcells HK.out (j := 0) rfl; rw [hst] at e; simpa using e))
  have hTl : a.gT < (w.setCell ⟨r, 10, none⟩ (.int .i64 (k : Int))).heap.size := HR.out.apart.2.2.2.1
  clear h hk hpl htxs htx hpw hb1 hm1 hc1 hT1 e1 hn1 hn2 hn hkp hlt hx hst HM
  go_enter Try.func28, Try.ntmps28
  go_wp2_with fail
  refine wp_region_held_drew (S := fun W => W.cell? ⟨r, 4, none⟩ = some (.slice (some ⟨a.gT, 0, none⟩) n a.cT) ∧ W.cell? ⟨r, 9, none⟩ = some (.slice (some ⟨b1, o1, none⟩) n1 c1) ∧ W.cell? ⟨b1, o1 + k, none⟩ = some (.slice A1 n2 d1) ∧ W.cell? ⟨a.gT, k * 11 + 1, none⟩ = some (.int .i64 (x : Int))) (by kernel_rfl) ?_ (fun hHelder => ?_)
  · exact HC.out _ (Below.refl _ _).drew
  refine tkW 0 { dst := some 9, op := Op.move (Operand.tmp 1), type := 3, pos := "stm.go:204", after := _, guard := none } (v := ?ver0) rfl (Or.inl ⟨by rfl, ?hyer0⟩) ?rester0
  case hyer0 => (intro w hSw; (try dsimp only at hSw); go_simp <;> with_reducible rfl)
  try simp only [putW, setZ, setS]
  refine tkW 1 { dst := some 10, op := Op.binOp BinOp.lss 3 (Operand.tmp 9) (Operand.const (Value.int IntKind.i64 0)) 3, type := 4, pos := "stm.go:204", after := _, guard := none } (v := .bool false) rfl (Or.inl ⟨by rfl, ?hyer1⟩) ?rester1
  case hyer1 => (intro w hSw; (try dsimp only at hSw); go_simp <;> first | done | with_reducible rfl | omega | (simp; done) | (simp; omega) | (simp [*]; done) | (simp [*]; omega) | exact decide_eq_false (by omega) | exact decide_eq_true (by omega))
  try simp only [putW, setZ, setS]
  refine tkW 2 { dst := some 11, op := Op.move (Operand.tmp 10), type := 4, pos := "stm.go:204", after := _, guard := none } (v := ?ver2) rfl (Or.inl ⟨by rfl, ?hyer2⟩) ?rester2
  case hyer2 => (intro w hSw; (try dsimp only at hSw); go_simp <;> with_reducible rfl)
  try simp only [putW, setZ, setS]
  refine tkW 3 { dst := some 12, op := Op.move (Operand.tmp 1), type := 3, pos := "stm.go:204", after := _, guard := some (2, false) } (v := ?ver3) rfl (Or.inl ⟨by rfl, ?hyer3⟩) ?rester3
  case hyer3 => (intro w hSw; (try dsimp only at hSw); go_simp <;> with_reducible rfl)
  try simp only [putW, setZ, setS]
  refine tkW 4 { dst := some 13, op := Op.move (Operand.tmp 0), type := 68, pos := "stm.go:204", after := _, guard := some (2, false) } (v := ?ver4) rfl (Or.inl ⟨by rfl, ?hyer4⟩) ?rester4
  case hyer4 => (intro w hSw; (try dsimp only at hSw); go_simp <;> with_reducible rfl)
  try simp only [putW, setZ, setS]
  refine tkW 5 { dst := some 14, op := Op.nilCheck (Operand.tmp 13), type := 0, pos := "stm.go:204", after := _, guard := some (2, false) } (v := ?ver5) rfl (Or.inl ⟨by rfl, ?hyer5⟩) ?rester5
  case hyer5 => (intro w hSw; (try dsimp only at hSw); go_simp <;> with_reducible rfl)
  try simp only [putW, setZ, setS]
  refine tkW 6 { dst := some 15, op := Op.fieldAddr 70 (Operand.tmp 14) 0, type := 0, pos := "stm.go:204", after := _, guard := some (2, false) } (v := ?ver6) rfl (Or.inl ⟨by rfl, ?hyer6⟩) ?rester6
  case hyer6 => (intro w hSw; (try dsimp only at hSw); go_simp <;> with_reducible rfl)
  try simp only [putW, setZ, setS]
  refine tkW 7 { dst := some 16, op := Op.fieldAddr 46 (Operand.tmp 15) 2, type := 0, pos := "stm.go:204", after := _, guard := some (2, false) } (v := ?ver7) rfl (Or.inl ⟨by rfl, ?hyer7⟩) ?rester7
  case hyer7 => (intro w hSw; (try dsimp only at hSw); go_simp <;> with_reducible rfl)
  try simp only [putW, setZ, setS]
  refine tkW 8 { dst := some 17, op := Op.load 44 (Operand.tmp 16), type := 44, pos := "stm.go:204", after := _, guard := some (2, false) } (v := ?ver8) rfl (Or.inl ⟨by rfl, ?hyer8⟩) ?rester8
  case hyer8 => (intro w hSw; (try dsimp only at hSw); go_simp <;> with_reducible rfl)
  try simp only [putW, setZ, setS]
  refine tkW 9 { dst := some 18, op := Op.call { callee := Callee.builtin Builtin.len, args := #[Operand.tmp 17], argTypes := #[44] }, type := 3, pos := "stm.go:204", after := _, guard := some (2, false) } (v := ?ver9) rfl (Or.inl ⟨by rfl, ?hyer9⟩) ?rester9
  case hyer9 => (intro w hSw; (try dsimp only at hSw); go_simp <;> with_reducible rfl)
  try simp only [putW, setZ, setS]
  refine tkW 10 { dst := some 19, op := Op.binOp BinOp.geq 3 (Operand.tmp 12) (Operand.tmp 18) 3, type := 4, pos := "stm.go:204", after := _, guard := some (2, false) } (v := .bool false) rfl (Or.inl ⟨by rfl, ?hyer10⟩) ?rester10
  case hyer10 => (intro w hSw; (try dsimp only at hSw); go_simp <;> first | done | with_reducible rfl | omega | (simp; done) | (simp; omega) | (simp [*]; done) | (simp [*]; omega) | exact decide_eq_false (by omega) | exact decide_eq_true (by omega))
  try simp only [putW, setZ, setS]
  refine tkW 11 { dst := some 20, op := Op.pick (Operand.tmp 11) (Operand.const (Value.bool true)) (Operand.tmp 19), type := 4, pos := "stm.go:204", after := _, guard := none } (v := ?ver11) rfl (Or.inl ⟨by rfl, ?hyer11⟩) ?rester11
  case hyer11 => (intro w hSw; (try dsimp only at hSw); go_simp <;> with_reducible rfl)
  try simp only [putW, setZ, setS]
  refine tkW 12 { dst := some 21, op := Op.move (Operand.tmp 20), type := 4, pos := "stm.go:204", after := _, guard := none } (v := ?ver12) rfl (Or.inl ⟨by rfl, ?hyer12⟩) ?rester12
  case hyer12 => (intro w hSw; (try dsimp only at hSw); go_simp <;> with_reducible rfl)
  try simp only [putW, setZ, setS]
  refine tkW 13 { dst := some 22, op := Op.move (Operand.tmp 0), type := 68, pos := "stm.go:204", after := _, guard := some (12, false) } (v := ?ver13) rfl (Or.inl ⟨by rfl, ?hyer13⟩) ?rester13
  case hyer13 => (intro w hSw; (try dsimp only at hSw); go_simp <;> with_reducible rfl)
  try simp only [putW, setZ, setS]
  refine tkW 18 { dst := some 27, op := Op.move (Operand.tmp 0), type := 68, pos := "stm.go:204", after := _, guard := some (12, false) } (v := ?ver18) rfl (Or.inl ⟨by rfl, ?hyer18⟩) ?rester18
  case hyer18 => (intro w hSw; (try dsimp only at hSw); go_simp <;> with_reducible rfl)
  try simp only [putW, setZ, setS]
  refine tkW 19 { dst := some 28, op := Op.nilCheck (Operand.tmp 27), type := 0, pos := "stm.go:204", after := _, guard := some (12, false) } (v := ?ver19) rfl (Or.inl ⟨by rfl, ?hyer19⟩) ?rester19
  case hyer19 => (intro w hSw; (try dsimp only at hSw); go_simp <;> with_reducible rfl)
  try simp only [putW, setZ, setS]
  refine tkW 20 { dst := some 29, op := Op.fieldAddr 70 (Operand.tmp 28) 1, type := 0, pos := "stm.go:204", after := _, guard := some (12, false) } (v := ?ver20) rfl (Or.inl ⟨by rfl, ?hyer20⟩) ?rester20
  case hyer20 => (intro w hSw; (try dsimp only at hSw); go_simp <;> with_reducible rfl)
  try simp only [putW, setZ, setS]
  refine tkW 21 { dst := some 30, op := Op.fieldAddr 39 (Operand.tmp 29) 2, type := 0, pos := "stm.go:204", after := _, guard := some (12, false) } (v := ?ver21) rfl (Or.inl ⟨by rfl, ?hyer21⟩) ?rester21
  case hyer21 => (intro w hSw; (try dsimp only at hSw); go_simp <;> with_reducible rfl)
  try simp only [putW, setZ, setS]
  refine tkW 22 { dst := some 31, op := Op.load 37 (Operand.tmp 30), type := 37, pos := "stm.go:204", after := _, guard := some (12, false) } (v := ?ver22) rfl (Or.inl ⟨by rfl, ?hyer22⟩) ?rester22
  case hyer22 => (intro w hSw; (try dsimp only at hSw); go_simp <;> with_reducible rfl)
  try simp only [putW, setZ, setS]
  refine tkW 23 { dst := some 32, op := Op.move (Operand.tmp 1), type := 3, pos := "stm.go:204", after := _, guard := some (12, false) } (v := ?ver23) rfl (Or.inl ⟨by rfl, ?hyer23⟩) ?rester23
  case hyer23 => (intro w hSw; (try dsimp only at hSw); go_simp <;> with_reducible rfl)
  try simp only [putW, setZ, setS]
  refine tkW 24 { dst := some 33, op := Op.indexAddr 37 (Operand.tmp 31) (Operand.tmp 32), type := 0, pos := "stm.go:204", after := _, guard := some (12, false) } (v := ?ver24) rfl (Or.inl ⟨by rfl, ?hyer24⟩) ?rester24
  case hyer24 => (intro w hSw; (try dsimp only at hSw); go_simp <;> with_reducible rfl)
  try simp only [putW, setZ, setS]
  refine tkW 25 { dst := some 34, op := Op.load 63 (Operand.tmp 33), type := 63, pos := "stm.go:204", after := _, guard := some (12, false) } (v := ?ver25) rfl (Or.inl ⟨by rfl, ?hyer25⟩) ?rester25
  case hyer25 => (intro w hSw; (try dsimp only at hSw); go_simp <;> with_reducible rfl)
  try simp only [putW, setZ, setS]
  refine tkW 26 { dst := some 35, op := Op.call { callee := Callee.builtin Builtin.len, args := #[Operand.tmp 34], argTypes := #[63] }, type := 3, pos := "stm.go:204", after := _, guard := some (12, false) } (v := ?ver26) rfl (Or.inl ⟨by rfl, ?hyer26⟩) ?rester26
  case hyer26 => (intro w hSw; (try dsimp only at hSw); go_simp <;> with_reducible rfl)
  try simp only [putW, setZ, setS]
  refine wpAnyH_ready (rs := [14]) (by kernel_rfl) (by simp) ?_
  refine AllReadyH.cons (o := { dst := some 23, op := Op.call { callee := Callee.value (Operand.func 41), args := #[Operand.tmp 22], argTypes := #[68] }, type := 84, pos := "stm.go:204", after := _, guard := some (12, false) }) rfl (fun K hK => ?_) AllReadyH.nil
  go_simp
  refine (HME.out _ (Below.refl _ _).drew).mono ?_
  rintro e w1 ⟨rfl, hb1'⟩
  have HB1 := Lib.hid ((Below.refl _ _).drew.trans hb1')
  clear hb1'
  try go_wp2_with fail
  refine hK.out _ _ ?_ (fun hHelder14 => ?_)
  · exact HC.out _ HB1.out
  clear hK K hHelder
  try simp only [Act.put, List.setIfInBounds_toArray, List.set_cons_zero, List.set_cons_succ]
  refine tkW 15 { dst := some 24, op := Op.nilCheck (Operand.tmp 23), type := 0, pos := "stm.go:204", after := _, guard := some (12, false) } (v := ?ver15) rfl (Or.inl ⟨by rfl, ?hyer15⟩) ?rester15
  case hyer15 => (intro w hSw; (try dsimp only at hSw); go_simp <;> with_reducible rfl)
  try simp only [putW, setZ, setS]
  refine tkW 16 { dst := some 25, op := Op.fieldAddr 52 (Operand.tmp 24) 1, type := 0, pos := "stm.go:204", after := _, guard := some (12, false) } (v := ?ver16) rfl (Or.inl ⟨by rfl, ?hyer16⟩) ?rester16
  case hyer16 => (intro w hSw; (try dsimp only at hSw); go_simp <;> with_reducible rfl)
  try simp only [putW, setZ, setS]
  refine tkW 17 { dst := some 26, op := Op.load 3 (Operand.tmp 25), type := 3, pos := "stm.go:204", after := _, guard := some (12, false) } (v := ?ver17) rfl (Or.inl ⟨by rfl, ?hyer17⟩) ?rester17
  case hyer17 => (intro w hSw; (try dsimp only at hSw); go_simp <;> with_reducible rfl)
  try simp only [putW, setZ, setS]
  refine tkW 27 { dst := some 36, op := Op.binOp BinOp.geq 3 (Operand.tmp 26) (Operand.tmp 35) 3, type := 4, pos := "stm.go:204", after := _, guard := some (12, false) } (v := .bool false) rfl (Or.inl ⟨by rfl, ?hyer27⟩) ?rester27
  case hyer27 => (intro w hSw; (try dsimp only at hSw); go_simp <;> first | done | with_reducible rfl | omega | (simp; done) | (simp; omega) | (simp [*]; done) | (simp [*]; omega) | exact decide_eq_false (by omega) | exact decide_eq_true (by omega))
  try simp only [putW, setZ, setS]
  refine tkW 28 { dst := some 37, op := Op.pick (Operand.tmp 21) (Operand.const (Value.bool true)) (Operand.tmp 36), type := 4, pos := "stm.go:204", after := _, guard := none } (v := ?ver28) rfl (Or.inl ⟨by rfl, ?hyer28⟩) ?rester28
  case hyer28 => (intro w hSw; (try dsimp only at hSw); go_simp <;> with_reducible rfl)
  try simp only [putW, setZ, setS]
  refine wpAnyH_done (by kernel_rfl) ?_ _

  obtain ⟨fs, hfs⟩ : ∃ fs : Array Value, fs = #[.func (.func 42) #[.pointer (some ⟨r, 0, none⟩)] #[], .func (.func 43) #[.pointer (some ⟨r, 0, none⟩)] #[], .func (.func 44) #[.pointer (some ⟨r, 0, none⟩)] #[], .func (.func 45) #[.pointer (some ⟨r, 0, none⟩)] #[], .func (.func 46) #[.pointer (some ⟨r, 0, none⟩)] #[], .func (.func 47) #[.pointer (some ⟨r, 0, none⟩)] #[]] := ⟨_, rfl⟩
  have HF := Lib.hid hfs
  clear hfs
  go_wp2_with (refine wpList_store_new rfl 86 _ _ rfl fs (by rfl) (by rw [HF.out]; rfl) (by rw [HF.out]; rfl) (by rw [HF.out]; exact ways_size) (by rw [HF.out]; simp [Value.oneCell']) ?_; intro w2 hB2 hb2; have HB2 := Lib.hid hB2; have hW2 := HB1.out.trans (hb2.mono HB1.out.size); have HW2 := Lib.hid hW2; clear hB2 hb2 hW2)
  refine (HME.out _ HW2.out).mono ?_
  rintro e w3 ⟨rfl, hb3⟩
  have HB3 := Lib.hid hb3
  have HW3 := Lib.hid (HW2.out.trans (hb3.mono HW2.out.size))
  have q0 := HC0.out _ HW3.out
  have qf : w3.cell? ⟨w1.heap.size, 0, none⟩ = some (.func (.func 42) #[.pointer (some ⟨r, 0, none⟩)] #[]) := by rw [(HB2.out.keep HB3.out).cell, HF.out]; rfl
  have H3 := Lib.hid (HR.out.keep HW3.out)
  have hl1 : w1.heap.size < w3.heap.size := (HB2.out.keep HB3.out).lt
  clear hb3
  go_wp2_with fail
  refine (HMM.out _ _ H3.out rfl).mono ?_
  rintro e w4 ⟨rfl, φ4, a4, m4, h4, e4⟩
  have H4 := Lib.hid h4
  have HE4 := Lib.hid e4
  clear h4 e4
  go_wp2
  go_end0
  exact ⟨rfl, _, _, _, H4.out, HE4.out⟩

set_option maxHeartbeats 4000000 in
theorem step_work {who0 : Int} (h : RunW w0 w r φ a m pw pm pv who0) {k : Nat} {t : Tx} (hk : m.T[k]? = some t) {pl : List (List (List Ac))} (hpl : PlV w0 pv pl) {txs : List (List Ac)} (htxs : pl[k]? = some txs) (x : Nat) (htx : t.tx = (x : Int)) (hx : x < txs.length) (hst : t.st = 1) {mm : Mm}
    (HM : ∀ W a', RunW w0 W r φ a m pw pm pv (k : Int) → a' = a → Calls Try.prog 43 #[.pointer (some ⟨r, 0, none⟩)] W (DonePost w0 r a mm k pw pm pv)) :
    Calls Try.prog 28 #[.pointer (some ⟨r, 0, none⟩), .int .i64 (k : Int)] w (StepPost w0 r mm pw pm pv (k : Int)) := by
  have hpw := hpl.below (h.setWho (k : Int)).base
  obtain ⟨b1, o1, c1, A1, d1, e1, hb1, hm1, hc1, hT1⟩ := hpw.at_ htxs
  have HR := Lib.hid (h.setWho (k : Int))
  have HK := Lib.hid hk
  have c10 : w.cell? ⟨r, 10, none⟩ = some (.int .i64 who0) := h.rcells 10
  have f10 := h.run.free 10
  have hlt := h.tlt hk
  have hkp : k < pl.length := (List.getElem?_eq_some_iff.1 htxs).1
  obtain ⟨n1, hn1⟩ : ∃ n, n = pl.length := ⟨_, rfl⟩
  obtain ⟨n2, hn2⟩ : ∃ n, n = txs.length := ⟨_, rfl⟩
  obtain ⟨n, hn⟩ : ∃ n, n = m.T.length := ⟨_, rfl⟩
  rw [← hn1] at e1
  rw [← hn2] at hc1
  have HC := Lib.hid (fun W (hb : Below (w.setCell ⟨r, 10, none⟩ (.int .i64 (k : Int))).heap.size (w.setCell ⟨r, 10, none⟩ (.int .i64 (k : Int))) W) => (show W.cell? ⟨r, 4, none⟩ = some (.slice (some ⟨a.gT, 0, none⟩) n a.cT) ∧ W.cell? ⟨r, 9, none⟩ = some (.slice (some ⟨b1, o1, none⟩) n1 c1) ∧ W.cell? ⟨b1, o1 + k, none⟩ = some (.slice A1 n2 d1) ∧ W.cell? ⟨a.gT, k * 11 + 1, none⟩ = some (.int .i64 (x : Int)) from
    ⟨by rw [hn]; exact (HR.out.keep hb).rcells 4, by rw [← e1]; exact (HR.out.keep hb).rcells 9, (hb.cell (p := ⟨b1, o1 + k, none⟩) hb1).trans hc1, by rw [← htx]; exact (HR.out.keep hb).tcells HK.out (j := 1) rfl⟩))
  have HME := Lib.hid (fun W (hb : Below (w.setCell ⟨r, 10, none⟩ (.int .i64 (k : Int))).heap.size (w.setCell ⟨r, 10, none⟩ (.int .i64 (k : Int))) W) => me_any (HR.out.keep hb) HK.out)
  have hk0 : (0 : Int) ≤ (k : Int) := by omega
  have hk0' : ¬ (k : Int) < 0 := by omega
  have hk1 : (k : Int) < (n1 : Int) := by omega
  have hkn : ¬ (n : Int) ≤ (k : Int) := by omega
  have hx0 : (0 : Int) ≤ (x : Int) := by omega
  have hxz : ¬ (n2 : Int) ≤ (x : Int) := by omega
  have HMM := Lib.hid HM
  have HC0 := Lib.hid (fun W (hb : Below (w.setCell ⟨r, 10, none⟩ (.int .i64 (k : Int))).heap.size (w.setCell ⟨r, 10, none⟩ (.int .i64 (k : Int))) W) => (show W.cell? ⟨a.gT, k * 11, none⟩ = some (.int .i64 1) from by have e := (HR.out.keep hb).tcells HK.out (j := 0) rfl; rw [hst] at e; simpa using e))
  have hTl : a.gT < (w.setCell ⟨r, 10, none⟩ (.int .i64 (k : Int))).heap.size := HR.out.apart.2.2.2.1
  clear h hk hpl htxs htx hpw hb1 hm1 hc1 hT1 e1 hn1 hn2 hn hkp hlt hx hst HM
  go_enter Try.func28, Try.ntmps28
  go_wp2_with fail
  refine wp_region_held_drew (S := fun W => W.cell? ⟨r, 4, none⟩ = some (.slice (some ⟨a.gT, 0, none⟩) n a.cT) ∧ W.cell? ⟨r, 9, none⟩ = some (.slice (some ⟨b1, o1, none⟩) n1 c1) ∧ W.cell? ⟨b1, o1 + k, none⟩ = some (.slice A1 n2 d1) ∧ W.cell? ⟨a.gT, k * 11 + 1, none⟩ = some (.int .i64 (x : Int))) (by kernel_rfl) ?_ (fun hHeldfr => ?_)
  · exact HC.out _ (Below.refl _ _).drew
  refine tkW 0 { dst := some 9, op := Op.move (Operand.tmp 1), type := 3, pos := "stm.go:204", after := _, guard := none } (v := ?vfr0) rfl (Or.inl ⟨by rfl, ?hyfr0⟩) ?restfr0
  case hyfr0 => (intro w hSw; (try dsimp only at hSw); go_simp <;> with_reducible rfl)
  try simp only [putW, setZ, setS]
  refine tkW 1 { dst := some 10, op := Op.binOp BinOp.lss 3 (Operand.tmp 9) (Operand.const (Value.int IntKind.i64 0)) 3, type := 4, pos := "stm.go:204", after := _, guard := none } (v := .bool false) rfl (Or.inl ⟨by rfl, ?hyfr1⟩) ?restfr1
  case hyfr1 => (intro w hSw; (try dsimp only at hSw); go_simp <;> first | done | with_reducible rfl | omega | (simp; done) | (simp; omega) | (simp [*]; done) | (simp [*]; omega) | exact decide_eq_false (by omega) | exact decide_eq_true (by omega))
  try simp only [putW, setZ, setS]
  refine tkW 2 { dst := some 11, op := Op.move (Operand.tmp 10), type := 4, pos := "stm.go:204", after := _, guard := none } (v := ?vfr2) rfl (Or.inl ⟨by rfl, ?hyfr2⟩) ?restfr2
  case hyfr2 => (intro w hSw; (try dsimp only at hSw); go_simp <;> with_reducible rfl)
  try simp only [putW, setZ, setS]
  refine tkW 3 { dst := some 12, op := Op.move (Operand.tmp 1), type := 3, pos := "stm.go:204", after := _, guard := some (2, false) } (v := ?vfr3) rfl (Or.inl ⟨by rfl, ?hyfr3⟩) ?restfr3
  case hyfr3 => (intro w hSw; (try dsimp only at hSw); go_simp <;> with_reducible rfl)
  try simp only [putW, setZ, setS]
  refine tkW 4 { dst := some 13, op := Op.move (Operand.tmp 0), type := 68, pos := "stm.go:204", after := _, guard := some (2, false) } (v := ?vfr4) rfl (Or.inl ⟨by rfl, ?hyfr4⟩) ?restfr4
  case hyfr4 => (intro w hSw; (try dsimp only at hSw); go_simp <;> with_reducible rfl)
  try simp only [putW, setZ, setS]
  refine tkW 5 { dst := some 14, op := Op.nilCheck (Operand.tmp 13), type := 0, pos := "stm.go:204", after := _, guard := some (2, false) } (v := ?vfr5) rfl (Or.inl ⟨by rfl, ?hyfr5⟩) ?restfr5
  case hyfr5 => (intro w hSw; (try dsimp only at hSw); go_simp <;> with_reducible rfl)
  try simp only [putW, setZ, setS]
  refine tkW 6 { dst := some 15, op := Op.fieldAddr 70 (Operand.tmp 14) 0, type := 0, pos := "stm.go:204", after := _, guard := some (2, false) } (v := ?vfr6) rfl (Or.inl ⟨by rfl, ?hyfr6⟩) ?restfr6
  case hyfr6 => (intro w hSw; (try dsimp only at hSw); go_simp <;> with_reducible rfl)
  try simp only [putW, setZ, setS]
  refine tkW 7 { dst := some 16, op := Op.fieldAddr 46 (Operand.tmp 15) 2, type := 0, pos := "stm.go:204", after := _, guard := some (2, false) } (v := ?vfr7) rfl (Or.inl ⟨by rfl, ?hyfr7⟩) ?restfr7
  case hyfr7 => (intro w hSw; (try dsimp only at hSw); go_simp <;> with_reducible rfl)
  try simp only [putW, setZ, setS]
  refine tkW 8 { dst := some 17, op := Op.load 44 (Operand.tmp 16), type := 44, pos := "stm.go:204", after := _, guard := some (2, false) } (v := ?vfr8) rfl (Or.inl ⟨by rfl, ?hyfr8⟩) ?restfr8
  case hyfr8 => (intro w hSw; (try dsimp only at hSw); go_simp <;> with_reducible rfl)
  try simp only [putW, setZ, setS]
  refine tkW 9 { dst := some 18, op := Op.call { callee := Callee.builtin Builtin.len, args := #[Operand.tmp 17], argTypes := #[44] }, type := 3, pos := "stm.go:204", after := _, guard := some (2, false) } (v := ?vfr9) rfl (Or.inl ⟨by rfl, ?hyfr9⟩) ?restfr9
  case hyfr9 => (intro w hSw; (try dsimp only at hSw); go_simp <;> with_reducible rfl)
  try simp only [putW, setZ, setS]
  refine tkW 10 { dst := some 19, op := Op.binOp BinOp.geq 3 (Operand.tmp 12) (Operand.tmp 18) 3, type := 4, pos := "stm.go:204", after := _, guard := some (2, false) } (v := .bool false) rfl (Or.inl ⟨by rfl, ?hyfr10⟩) ?restfr10
  case hyfr10 => (intro w hSw; (try dsimp only at hSw); go_simp <;> first | done | with_reducible rfl | omega | (simp; done) | (simp; omega) | (simp [*]; done) | (simp [*]; omega) | exact decide_eq_false (by omega) | exact decide_eq_true (by omega))
  try simp only [putW, setZ, setS]
  refine tkW 11 { dst := some 20, op := Op.pick (Operand.tmp 11) (Operand.const (Value.bool true)) (Operand.tmp 19), type := 4, pos := "stm.go:204", after := _, guard := none } (v := ?vfr11) rfl (Or.inl ⟨by rfl, ?hyfr11⟩) ?restfr11
  case hyfr11 => (intro w hSw; (try dsimp only at hSw); go_simp <;> with_reducible rfl)
  try simp only [putW, setZ, setS]
  refine tkW 12 { dst := some 21, op := Op.move (Operand.tmp 20), type := 4, pos := "stm.go:204", after := _, guard := none } (v := ?vfr12) rfl (Or.inl ⟨by rfl, ?hyfr12⟩) ?restfr12
  case hyfr12 => (intro w hSw; (try dsimp only at hSw); go_simp <;> with_reducible rfl)
  try simp only [putW, setZ, setS]
  refine tkW 13 { dst := some 22, op := Op.move (Operand.tmp 0), type := 68, pos := "stm.go:204", after := _, guard := some (12, false) } (v := ?vfr13) rfl (Or.inl ⟨by rfl, ?hyfr13⟩) ?restfr13
  case hyfr13 => (intro w hSw; (try dsimp only at hSw); go_simp <;> with_reducible rfl)
  try simp only [putW, setZ, setS]
  refine tkW 18 { dst := some 27, op := Op.move (Operand.tmp 0), type := 68, pos := "stm.go:204", after := _, guard := some (12, false) } (v := ?vfr18) rfl (Or.inl ⟨by rfl, ?hyfr18⟩) ?restfr18
  case hyfr18 => (intro w hSw; (try dsimp only at hSw); go_simp <;> with_reducible rfl)
  try simp only [putW, setZ, setS]
  refine tkW 19 { dst := some 28, op := Op.nilCheck (Operand.tmp 27), type := 0, pos := "stm.go:204", after := _, guard := some (12, false) } (v := ?vfr19) rfl (Or.inl ⟨by rfl, ?hyfr19⟩) ?restfr19
  case hyfr19 => (intro w hSw; (try dsimp only at hSw); go_simp <;> with_reducible rfl)
  try simp only [putW, setZ, setS]
  refine tkW 20 { dst := some 29, op := Op.fieldAddr 70 (Operand.tmp 28) 1, type := 0, pos := "stm.go:204", after := _, guard := some (12, false) } (v := ?vfr20) rfl (Or.inl ⟨by rfl, ?hyfr20⟩) ?restfr20
  case hyfr20 => (intro w hSw; (try dsimp only at hSw); go_simp <;> with_reducible rfl)
  try simp only [putW, setZ, setS]
  refine tkW 21 { dst := some 30, op := Op.fieldAddr 39 (Operand.tmp 29) 2, type := 0, pos := "stm.go:204", after := _, guard := some (12, false) } (v := ?vfr21) rfl (Or.inl ⟨by rfl, ?hyfr21⟩) ?restfr21
  case hyfr21 => (intro w hSw; (try dsimp only at hSw); go_simp <;> with_reducible rfl)
  try simp only [putW, setZ, setS]
  refine tkW 22 { dst := some 31, op := Op.load 37 (Operand.tmp 30), type := 37, pos := "stm.go:204", after := _, guard := some (12, false) } (v := ?vfr22) rfl (Or.inl ⟨by rfl, ?hyfr22⟩) ?restfr22
  case hyfr22 => (intro w hSw; (try dsimp only at hSw); go_simp <;> with_reducible rfl)
  try simp only [putW, setZ, setS]
  refine tkW 23 { dst := some 32, op := Op.move (Operand.tmp 1), type := 3, pos := "stm.go:204", after := _, guard := some (12, false) } (v := ?vfr23) rfl (Or.inl ⟨by rfl, ?hyfr23⟩) ?restfr23
  case hyfr23 => (intro w hSw; (try dsimp only at hSw); go_simp <;> with_reducible rfl)
  try simp only [putW, setZ, setS]
  refine tkW 24 { dst := some 33, op := Op.indexAddr 37 (Operand.tmp 31) (Operand.tmp 32), type := 0, pos := "stm.go:204", after := _, guard := some (12, false) } (v := ?vfr24) rfl (Or.inl ⟨by rfl, ?hyfr24⟩) ?restfr24
  case hyfr24 => (intro w hSw; (try dsimp only at hSw); go_simp <;> with_reducible rfl)
  try simp only [putW, setZ, setS]
  refine tkW 25 { dst := some 34, op := Op.load 63 (Operand.tmp 33), type := 63, pos := "stm.go:204", after := _, guard := some (12, false) } (v := ?vfr25) rfl (Or.inl ⟨by rfl, ?hyfr25⟩) ?restfr25
  case hyfr25 => (intro w hSw; (try dsimp only at hSw); go_simp <;> with_reducible rfl)
  try simp only [putW, setZ, setS]
  refine tkW 26 { dst := some 35, op := Op.call { callee := Callee.builtin Builtin.len, args := #[Operand.tmp 34], argTypes := #[63] }, type := 3, pos := "stm.go:204", after := _, guard := some (12, false) } (v := ?vfr26) rfl (Or.inl ⟨by rfl, ?hyfr26⟩) ?restfr26
  case hyfr26 => (intro w hSw; (try dsimp only at hSw); go_simp <;> with_reducible rfl)
  try simp only [putW, setZ, setS]
  refine wpAnyH_ready (rs := [14]) (by kernel_rfl) (by simp) ?_
  refine AllReadyH.cons (o := { dst := some 23, op := Op.call { callee := Callee.value (Operand.func 41), args := #[Operand.tmp 22], argTypes := #[68] }, type := 84, pos := "stm.go:204", after := _, guard := some (12, false) }) rfl (fun K hK => ?_) AllReadyH.nil
  go_simp
  refine (HME.out _ (Below.refl _ _).drew).mono ?_
  rintro e w1 ⟨rfl, hb1'⟩
  have HB1 := Lib.hid ((Below.refl _ _).drew.trans hb1')
  clear hb1'
  try go_wp2_with fail
  refine hK.out _ _ ?_ (fun hHeldfr14 => ?_)
  · exact HC.out _ HB1.out
  clear hK K hHeldfr
  try simp only [Act.put, List.setIfInBounds_toArray, List.set_cons_zero, List.set_cons_succ]
  refine tkW 15 { dst := some 24, op := Op.nilCheck (Operand.tmp 23), type := 0, pos := "stm.go:204", after := _, guard := some (12, false) } (v := ?vfr15) rfl (Or.inl ⟨by rfl, ?hyfr15⟩) ?restfr15
  case hyfr15 => (intro w hSw; (try dsimp only at hSw); go_simp <;> with_reducible rfl)
  try simp only [putW, setZ, setS]
  refine tkW 16 { dst := some 25, op := Op.fieldAddr 52 (Operand.tmp 24) 1, type := 0, pos := "stm.go:204", after := _, guard := some (12, false) } (v := ?vfr16) rfl (Or.inl ⟨by rfl, ?hyfr16⟩) ?restfr16
  case hyfr16 => (intro w hSw; (try dsimp only at hSw); go_simp <;> with_reducible rfl)
  try simp only [putW, setZ, setS]
  refine tkW 17 { dst := some 26, op := Op.load 3 (Operand.tmp 25), type := 3, pos := "stm.go:204", after := _, guard := some (12, false) } (v := ?vfr17) rfl (Or.inl ⟨by rfl, ?hyfr17⟩) ?restfr17
  case hyfr17 => (intro w hSw; (try dsimp only at hSw); go_simp <;> with_reducible rfl)
  try simp only [putW, setZ, setS]
  refine tkW 27 { dst := some 36, op := Op.binOp BinOp.geq 3 (Operand.tmp 26) (Operand.tmp 35) 3, type := 4, pos := "stm.go:204", after := _, guard := some (12, false) } (v := .bool false) rfl (Or.inl ⟨by rfl, ?hyfr27⟩) ?restfr27
  case hyfr27 => (intro w hSw; (try dsimp only at hSw); go_simp <;> first | done | with_reducible rfl | omega | (simp; done) | (simp; omega) | (simp [*]; done) | (simp [*]; omega) | exact decide_eq_false (by omega) | exact decide_eq_true (by omega))
  try simp only [putW, setZ, setS]
  refine tkW 28 { dst := some 37, op := Op.pick (Operand.tmp 21) (Operand.const (Value.bool true)) (Operand.tmp 36), type := 4, pos := "stm.go:204", after := _, guard := none } (v := ?vfr28) rfl (Or.inl ⟨by rfl, ?hyfr28⟩) ?restfr28
  case hyfr28 => (intro w hSw; (try dsimp only at hSw); go_simp <;> with_reducible rfl)
  try simp only [putW, setZ, setS]
  refine wpAnyH_done (by kernel_rfl) ?_ _

  obtain ⟨fs, hfs⟩ : ∃ fs : Array Value, fs = #[.func (.func 42) #[.pointer (some ⟨r, 0, none⟩)] #[], .func (.func 43) #[.pointer (some ⟨r, 0, none⟩)] #[], .func (.func 44) #[.pointer (some ⟨r, 0, none⟩)] #[], .func (.func 45) #[.pointer (some ⟨r, 0, none⟩)] #[], .func (.func 46) #[.pointer (some ⟨r, 0, none⟩)] #[], .func (.func 47) #[.pointer (some ⟨r, 0, none⟩)] #[]] := ⟨_, rfl⟩
  have HF := Lib.hid hfs
  clear hfs
  go_wp2_with (refine wpList_store_new rfl 86 _ _ rfl fs (by rfl) (by rw [HF.out]; rfl) (by rw [HF.out]; rfl) (by rw [HF.out]; exact ways_size) (by rw [HF.out]; simp [Value.oneCell']) ?_; intro w2 hB2 hb2; have HB2 := Lib.hid hB2; have hW2 := HB1.out.trans (hb2.mono HB1.out.size); have HW2 := Lib.hid hW2; clear hB2 hb2 hW2)
  refine (HME.out _ HW2.out).mono ?_
  rintro e w3 ⟨rfl, hb3⟩
  have HB3 := Lib.hid hb3
  have HW3 := Lib.hid (HW2.out.trans (hb3.mono HW2.out.size))
  have q0 := HC0.out _ HW3.out
  have qf : w3.cell? ⟨w1.heap.size, 1, none⟩ = some (.func (.func 43) #[.pointer (some ⟨r, 0, none⟩)] #[]) := by rw [(HB2.out.keep HB3.out).cell, HF.out]; rfl
  have H3 := Lib.hid (HR.out.keep HW3.out)
  have hl1 : w1.heap.size < w3.heap.size := (HB2.out.keep HB3.out).lt
  clear hb3
  go_wp2_with fail
  refine (HMM.out _ _ H3.out rfl).mono ?_
  rintro e w4 ⟨rfl, φ4, a4, m4, h4, e4⟩
  have H4 := Lib.hid h4
  have HE4 := Lib.hid e4
  clear h4 e4
  go_wp2
  go_end0
  exact ⟨rfl, _, _, _, H4.out, HE4.out⟩

set_option maxHeartbeats 4000000 in
theorem step_hold {who0 : Int} (h : RunW w0 w r φ a m pw pm pv who0) {k : Nat} {t : Tx} (hk : m.T[k]? = some t) {pl : List (List (List Ac))} (hpl : PlV w0 pv pl) {txs : List (List Ac)} (htxs : pl[k]? = some txs) (x : Nat) (htx : t.tx = (x : Int)) (hx : x < txs.length) (hst : t.st = 2) {mm : Mm}
    (HM : ∀ W a', RunW w0 W r φ a m pw pm pv (k : Int) → a' = a → Calls Try.prog 44 #[.pointer (some ⟨r, 0, none⟩)] W (DonePost w0 r a mm k pw pm pv)) :
    Calls Try.prog 28 #[.pointer (some ⟨r, 0, none⟩), .int .i64 (k : Int)] w (StepPost w0 r mm pw pm pv (k : Int)) := by
  have hpw := hpl.below (h.setWho (k : Int)).base
  obtain ⟨b1, o1, c1, A1, d1, e1, hb1, hm1, hc1, hT1⟩ := hpw.at_ htxs
  have HR := Lib.hid (h.setWho (k : Int))
  have HK := Lib.hid hk
  have c10 : w.cell? ⟨r, 10, none⟩ = some (.int .i64 who0) := h.rcells 10
  have f10 := h.run.free 10
  have hlt := h.tlt hk
  have hkp : k < pl.length := (List.getElem?_eq_some_iff.1 htxs).1
  obtain ⟨n1, hn1⟩ : ∃ n, n = pl.length := ⟨_, rfl⟩
  obtain ⟨n2, hn2⟩ : ∃ n, n = txs.length := ⟨_, rfl⟩
  obtain ⟨n, hn⟩ : ∃ n, n = m.T.length := ⟨_, rfl⟩
  rw [← hn1] at e1
  rw [← hn2] at hc1
  have HC := Lib.hid (fun W (hb : Below (w.setCell ⟨r, 10, none⟩ (.int .i64 (k : Int))).heap.size (w.setCell ⟨r, 10, none⟩ (.int .i64 (k : Int))) W) => (show W.cell? ⟨r, 4, none⟩ = some (.slice (some ⟨a.gT, 0, none⟩) n a.cT) ∧ W.cell? ⟨r, 9, none⟩ = some (.slice (some ⟨b1, o1, none⟩) n1 c1) ∧ W.cell? ⟨b1, o1 + k, none⟩ = some (.slice A1 n2 d1) ∧ W.cell? ⟨a.gT, k * 11 + 1, none⟩ = some (.int .i64 (x : Int)) from
    ⟨by rw [hn]; exact (HR.out.keep hb).rcells 4, by rw [← e1]; exact (HR.out.keep hb).rcells 9, (hb.cell (p := ⟨b1, o1 + k, none⟩) hb1).trans hc1, by rw [← htx]; exact (HR.out.keep hb).tcells HK.out (j := 1) rfl⟩))
  have HME := Lib.hid (fun W (hb : Below (w.setCell ⟨r, 10, none⟩ (.int .i64 (k : Int))).heap.size (w.setCell ⟨r, 10, none⟩ (.int .i64 (k : Int))) W) => me_any (HR.out.keep hb) HK.out)
  have hk0 : (0 : Int) ≤ (k : Int) := by omega
  have hk0' : ¬ (k : Int) < 0 := by omega
  have hk1 : (k : Int) < (n1 : Int) := by omega
  have hkn : ¬ (n : Int) ≤ (k : Int) := by omega
  have hx0 : (0 : Int) ≤ (x : Int) := by omega
  have hxz : ¬ (n2 : Int) ≤ (x : Int) := by omega
  have HMM := Lib.hid HM
  have HC0 := Lib.hid (fun W (hb : Below (w.setCell ⟨r, 10, none⟩ (.int .i64 (k : Int))).heap.size (w.setCell ⟨r, 10, none⟩ (.int .i64 (k : Int))) W) => (show W.cell? ⟨a.gT, k * 11, none⟩ = some (.int .i64 2) from by have e := (HR.out.keep hb).tcells HK.out (j := 0) rfl; rw [hst] at e; simpa using e))
  have hTl : a.gT < (w.setCell ⟨r, 10, none⟩ (.int .i64 (k : Int))).heap.size := HR.out.apart.2.2.2.1
  clear h hk hpl htxs htx hpw hb1 hm1 hc1 hT1 e1 hn1 hn2 hn hkp hlt hx hst HM
  go_enter Try.func28, Try.ntmps28
  go_wp2_with fail
  refine wp_region_held_drew (S := fun W => W.cell? ⟨r, 4, none⟩ = some (.slice (some ⟨a.gT, 0, none⟩) n a.cT) ∧ W.cell? ⟨r, 9, none⟩ = some (.slice (some ⟨b1, o1, none⟩) n1 c1) ∧ W.cell? ⟨b1, o1 + k, none⟩ = some (.slice A1 n2 d1) ∧ W.cell? ⟨a.gT, k * 11 + 1, none⟩ = some (.int .i64 (x : Int))) (by kernel_rfl) ?_ (fun hHeldgr => ?_)
  · exact HC.out _ (Below.refl _ _).drew
  refine tkW 0 { dst := some 9, op := Op.move (Operand.tmp 1), type := 3, pos := "stm.go:204", after := _, guard := none } (v := ?vgr0) rfl (Or.inl ⟨by rfl, ?hygr0⟩) ?restgr0
  case hygr0 => (intro w hSw; (try dsimp only at hSw); go_simp <;> with_reducible rfl)
  try simp only [putW, setZ, setS]
  refine tkW 1 { dst := some 10, op := Op.binOp BinOp.lss 3 (Operand.tmp 9) (Operand.const (Value.int IntKind.i64 0)) 3, type := 4, pos := "stm.go:204", after := _, guard := none } (v := .bool false) rfl (Or.inl ⟨by rfl, ?hygr1⟩) ?restgr1
  case hygr1 => (intro w hSw; (try dsimp only at hSw); go_simp <;> first | done | with_reducible rfl | omega | (simp; done) | (simp; omega) | (simp [*]; done) | (simp [*]; omega) | exact decide_eq_false (by omega) | exact decide_eq_true (by omega))
  try simp only [putW, setZ, setS]
  refine tkW 2 { dst := some 11, op := Op.move (Operand.tmp 10), type := 4, pos := "stm.go:204", after := _, guard := none } (v := ?vgr2) rfl (Or.inl ⟨by rfl, ?hygr2⟩) ?restgr2
  case hygr2 => (intro w hSw; (try dsimp only at hSw); go_simp <;> with_reducible rfl)
  try simp only [putW, setZ, setS]
  refine tkW 3 { dst := some 12, op := Op.move (Operand.tmp 1), type := 3, pos := "stm.go:204", after := _, guard := some (2, false) } (v := ?vgr3) rfl (Or.inl ⟨by rfl, ?hygr3⟩) ?restgr3
  case hygr3 => (intro w hSw; (try dsimp only at hSw); go_simp <;> with_reducible rfl)
  try simp only [putW, setZ, setS]
  refine tkW 4 { dst := some 13, op := Op.move (Operand.tmp 0), type := 68, pos := "stm.go:204", after := _, guard := some (2, false) } (v := ?vgr4) rfl (Or.inl ⟨by rfl, ?hygr4⟩) ?restgr4
  case hygr4 => (intro w hSw; (try dsimp only at hSw); go_simp <;> with_reducible rfl)
  try simp only [putW, setZ, setS]
  refine tkW 5 { dst := some 14, op := Op.nilCheck (Operand.tmp 13), type := 0, pos := "stm.go:204", after := _, guard := some (2, false) } (v := ?vgr5) rfl (Or.inl ⟨by rfl, ?hygr5⟩) ?restgr5
  case hygr5 => (intro w hSw; (try dsimp only at hSw); go_simp <;> with_reducible rfl)
  try simp only [putW, setZ, setS]
  refine tkW 6 { dst := some 15, op := Op.fieldAddr 70 (Operand.tmp 14) 0, type := 0, pos := "stm.go:204", after := _, guard := some (2, false) } (v := ?vgr6) rfl (Or.inl ⟨by rfl, ?hygr6⟩) ?restgr6
  case hygr6 => (intro w hSw; (try dsimp only at hSw); go_simp <;> with_reducible rfl)
  try simp only [putW, setZ, setS]
  refine tkW 7 { dst := some 16, op := Op.fieldAddr 46 (Operand.tmp 15) 2, type := 0, pos := "stm.go:204", after := _, guard := some (2, false) } (v := ?vgr7) rfl (Or.inl ⟨by rfl, ?hygr7⟩) ?restgr7
  case hygr7 => (intro w hSw; (try dsimp only at hSw); go_simp <;> with_reducible rfl)
  try simp only [putW, setZ, setS]
  refine tkW 8 { dst := some 17, op := Op.load 44 (Operand.tmp 16), type := 44, pos := "stm.go:204", after := _, guard := some (2, false) } (v := ?vgr8) rfl (Or.inl ⟨by rfl, ?hygr8⟩) ?restgr8
  case hygr8 => (intro w hSw; (try dsimp only at hSw); go_simp <;> with_reducible rfl)
  try simp only [putW, setZ, setS]
  refine tkW 9 { dst := some 18, op := Op.call { callee := Callee.builtin Builtin.len, args := #[Operand.tmp 17], argTypes := #[44] }, type := 3, pos := "stm.go:204", after := _, guard := some (2, false) } (v := ?vgr9) rfl (Or.inl ⟨by rfl, ?hygr9⟩) ?restgr9
  case hygr9 => (intro w hSw; (try dsimp only at hSw); go_simp <;> with_reducible rfl)
  try simp only [putW, setZ, setS]
  refine tkW 10 { dst := some 19, op := Op.binOp BinOp.geq 3 (Operand.tmp 12) (Operand.tmp 18) 3, type := 4, pos := "stm.go:204", after := _, guard := some (2, false) } (v := .bool false) rfl (Or.inl ⟨by rfl, ?hygr10⟩) ?restgr10
  case hygr10 => (intro w hSw; (try dsimp only at hSw); go_simp <;> first | done | with_reducible rfl | omega | (simp; done) | (simp; omega) | (simp [*]; done) | (simp [*]; omega) | exact decide_eq_false (by omega) | exact decide_eq_true (by omega))
  try simp only [putW, setZ, setS]
  refine tkW 11 { dst := some 20, op := Op.pick (Operand.tmp 11) (Operand.const (Value.bool true)) (Operand.tmp 19), type := 4, pos := "stm.go:204", after := _, guard := none } (v := ?vgr11) rfl (Or.inl ⟨by rfl, ?hygr11⟩) ?restgr11
  case hygr11 => (intro w hSw; (try dsimp only at hSw); go_simp <;> with_reducible rfl)
  try simp only [putW, setZ, setS]
  refine tkW 12 { dst := some 21, op := Op.move (Operand.tmp 20), type := 4, pos := "stm.go:204", after := _, guard := none } (v := ?vgr12) rfl (Or.inl ⟨by rfl, ?hygr12⟩) ?restgr12
  case hygr12 => (intro w hSw; (try dsimp only at hSw); go_simp <;> with_reducible rfl)
  try simp only [putW, setZ, setS]
  refine tkW 13 { dst := some 22, op := Op.move (Operand.tmp 0), type := 68, pos := "stm.go:204", after := _, guard := some (12, false) } (v := ?vgr13) rfl (Or.inl ⟨by rfl, ?hygr13⟩) ?restgr13
  case hygr13 => (intro w hSw; (try dsimp only at hSw); go_simp <;> with_reducible rfl)
  try simp only [putW, setZ, setS]
  refine tkW 18 { dst := some 27, op := Op.move (Operand.tmp 0), type := 68, pos := "stm.go:204", after := _, guard := some (12, false) } (v := ?vgr18) rfl (Or.inl ⟨by rfl, ?hygr18⟩) ?restgr18
  case hygr18 => (intro w hSw; (try dsimp only at hSw); go_simp <;> with_reducible rfl)
  try simp only [putW, setZ, setS]
  refine tkW 19 { dst := some 28, op := Op.nilCheck (Operand.tmp 27), type := 0, pos := "stm.go:204", after := _, guard := some (12, false) } (v := ?vgr19) rfl (Or.inl ⟨by rfl, ?hygr19⟩) ?restgr19
  case hygr19 => (intro w hSw; (try dsimp only at hSw); go_simp <;> with_reducible rfl)
  try simp only [putW, setZ, setS]
  refine tkW 20 { dst := some 29, op := Op.fieldAddr 70 (Operand.tmp 28) 1, type := 0, pos := "stm.go:204", after := _, guard := some (12, false) } (v := ?vgr20) rfl (Or.inl ⟨by rfl, ?hygr20⟩) ?restgr20
  case hygr20 => (intro w hSw; (try dsimp only at hSw); go_simp <;> with_reducible rfl)
  try simp only [putW, setZ, setS]
  refine tkW 21 { dst := some 30, op := Op.fieldAddr 39 (Operand.tmp 29) 2, type := 0, pos := "stm.go:204", after := _, guard := some (12, false) } (v := ?vgr21) rfl (Or.inl ⟨by rfl, ?hygr21⟩) ?restgr21
  case hygr21 => (intro w hSw; (try dsimp only at hSw); go_simp <;> with_reducible rfl)
  try simp only [putW, setZ, setS]
  refine tkW 22 { dst := some 31, op := Op.load 37 (Operand.tmp 30), type := 37, pos := "stm.go:204", after := _, guard := some (12, false) } (v := ?vgr22) rfl (Or.inl ⟨by rfl, ?hygr22⟩) ?restgr22
  case hygr22 => (intro w hSw; (try dsimp only at hSw); go_simp <;> with_reducible rfl)
  try simp only [putW, setZ, setS]
  refine tkW 23 { dst := some 32, op := Op.move (Operand.tmp 1), type := 3, pos := "stm.go:204", after := _, guard := some (12, false) } (v := ?vgr23) rfl (Or.inl ⟨by rfl, ?hygr23⟩) ?restgr23
  case hygr23 => (intro w hSw; (try dsimp only at hSw); go_simp <;> with_reducible rfl)
  try simp only [putW, setZ, setS]
  refine tkW 24 { dst := some 33, op := Op.indexAddr 37 (Operand.tmp 31) (Operand.tmp 32), type := 0, pos := "stm.go:204", after := _, guard := some (12, false) } (v := ?vgr24) rfl (Or.inl ⟨by rfl, ?hygr24⟩) ?restgr24
  case hygr24 => (intro w hSw; (try dsimp only at hSw); go_simp <;> with_reducible rfl)
  try simp only [putW, setZ, setS]
  refine tkW 25 { dst := some 34, op := Op.load 63 (Operand.tmp 33), type := 63, pos := "stm.go:204", after := _, guard := some (12, false) } (v := ?vgr25) rfl (Or.inl ⟨by rfl, ?hygr25⟩) ?restgr25
  case hygr25 => (intro w hSw; (try dsimp only at hSw); go_simp <;> with_reducible rfl)
  try simp only [putW, setZ, setS]
  refine tkW 26 { dst := some 35, op := Op.call { callee := Callee.builtin Builtin.len, args := #[Operand.tmp 34], argTypes := #[63] }, type := 3, pos := "stm.go:204", after := _, guard := some (12, false) } (v := ?vgr26) rfl (Or.inl ⟨by rfl, ?hygr26⟩) ?restgr26
  case hygr26 => (intro w hSw; (try dsimp only at hSw); go_simp <;> with_reducible rfl)
  try simp only [putW, setZ, setS]
  refine wpAnyH_ready (rs := [14]) (by kernel_rfl) (by simp) ?_
  refine AllReadyH.cons (o := { dst := some 23, op := Op.call { callee := Callee.value (Operand.func 41), args := #[Operand.tmp 22], argTypes := #[68] }, type := 84, pos := "stm.go:204", after := _, guard := some (12, false) }) rfl (fun K hK => ?_) AllReadyH.nil
  go_simp
  refine (HME.out _ (Below.refl _ _).drew).mono ?_
  rintro e w1 ⟨rfl, hb1'⟩
  have HB1 := Lib.hid ((Below.refl _ _).drew.trans hb1')
  clear hb1'
  try go_wp2_with fail
  refine hK.out _ _ ?_ (fun hHeldgr14 => ?_)
  · exact HC.out _ HB1.out
  clear hK K hHeldgr
  try simp only [Act.put, List.setIfInBounds_toArray, List.set_cons_zero, List.set_cons_succ]
  refine tkW 15 { dst := some 24, op := Op.nilCheck (Operand.tmp 23), type := 0, pos := "stm.go:204", after := _, guard := some (12, false) } (v := ?vgr15) rfl (Or.inl ⟨by rfl, ?hygr15⟩) ?restgr15
  case hygr15 => (intro w hSw; (try dsimp only at hSw); go_simp <;> with_reducible rfl)
  try simp only [putW, setZ, setS]
  refine tkW 16 { dst := some 25, op := Op.fieldAddr 52 (Operand.tmp 24) 1, type := 0, pos := "stm.go:204", after := _, guard := some (12, false) } (v := ?vgr16) rfl (Or.inl ⟨by rfl, ?hygr16⟩) ?restgr16
  case hygr16 => (intro w hSw; (try dsimp only at hSw); go_simp <;> with_reducible rfl)
  try simp only [putW, setZ, setS]
  refine tkW 17 { dst := some 26, op := Op.load 3 (Operand.tmp 25), type := 3, pos := "stm.go:204", after := _, guard := some (12, false) } (v := ?vgr17) rfl (Or.inl ⟨by rfl, ?hygr17⟩) ?restgr17
  case hygr17 => (intro w hSw; (try dsimp only at hSw); go_simp <;> with_reducible rfl)
  try simp only [putW, setZ, setS]
  refine tkW 27 { dst := some 36, op := Op.binOp BinOp.geq 3 (Operand.tmp 26) (Operand.tmp 35) 3, type := 4, pos := "stm.go:204", after := _, guard := some (12, false) } (v := .bool false) rfl (Or.inl ⟨by rfl, ?hygr27⟩) ?restgr27
  case hygr27 => (intro w hSw; (try dsimp only at hSw); go_simp <;> first | done | with_reducible rfl | omega | (simp; done) | (simp; omega) | (simp [*]; done) | (simp [*]; omega) | exact decide_eq_false (by omega) | exact decide_eq_true (by omega))
  try simp only [putW, setZ, setS]
  refine tkW 28 { dst := some 37, op := Op.pick (Operand.tmp 21) (Operand.const (Value.bool true)) (Operand.tmp 36), type := 4, pos := "stm.go:204", after := _, guard := none } (v := ?vgr28) rfl (Or.inl ⟨by rfl, ?hygr28⟩) ?restgr28
  case hygr28 => (intro w hSw; (try dsimp only at hSw); go_simp <;> with_reducible rfl)
  try simp only [putW, setZ, setS]
  refine wpAnyH_done (by kernel_rfl) ?_ _

  obtain ⟨fs, hfs⟩ : ∃ fs : Array Value, fs = #[.func (.func 42) #[.pointer (some ⟨r, 0, none⟩)] #[], .func (.func 43) #[.pointer (some ⟨r, 0, none⟩)] #[], .func (.func 44) #[.pointer (some ⟨r, 0, none⟩)] #[], .func (.func 45) #[.pointer (some ⟨r, 0, none⟩)] #[], .func (.func 46) #[.pointer (some ⟨r, 0, none⟩)] #[], .func (.func 47) #[.pointer (some ⟨r, 0, none⟩)] #[]] := ⟨_, rfl⟩
  have HF := Lib.hid hfs
  clear hfs
  go_wp2_with (refine wpList_store_new rfl 86 _ _ rfl fs (by rfl) (by rw [HF.out]; rfl) (by rw [HF.out]; rfl) (by rw [HF.out]; exact ways_size) (by rw [HF.out]; simp [Value.oneCell']) ?_; intro w2 hB2 hb2; have HB2 := Lib.hid hB2; have hW2 := HB1.out.trans (hb2.mono HB1.out.size); have HW2 := Lib.hid hW2; clear hB2 hb2 hW2)
  refine (HME.out _ HW2.out).mono ?_
  rintro e w3 ⟨rfl, hb3⟩
  have HB3 := Lib.hid hb3
  have HW3 := Lib.hid (HW2.out.trans (hb3.mono HW2.out.size))
  have q0 := HC0.out _ HW3.out
  have qf : w3.cell? ⟨w1.heap.size, 2, none⟩ = some (.func (.func 44) #[.pointer (some ⟨r, 0, none⟩)] #[]) := by rw [(HB2.out.keep HB3.out).cell, HF.out]; rfl
  have H3 := Lib.hid (HR.out.keep HW3.out)
  have hl1 : w1.heap.size < w3.heap.size := (HB2.out.keep HB3.out).lt
  clear hb3
  go_wp2_with fail
  refine (HMM.out _ _ H3.out rfl).mono ?_
  rintro e w4 ⟨rfl, φ4, a4, m4, h4, e4⟩
  have H4 := Lib.hid h4
  have HE4 := Lib.hid e4
  clear h4 e4
  go_wp2
  go_end0
  exact ⟨rfl, _, _, _, H4.out, HE4.out⟩

set_option maxHeartbeats 4000000 in
theorem step_tick {who0 : Int} (h : RunW w0 w r φ a m pw pm pv who0) {k : Nat} {t : Tx} (hk : m.T[k]? = some t) {pl : List (List (List Ac))} (hpl : PlV w0 pv pl) {txs : List (List Ac)} (htxs : pl[k]? = some txs) (x : Nat) (htx : t.tx = (x : Int)) (hx : x < txs.length) (hst : t.st = 3) {mm : Mm}
    (HM : ∀ W a', RunW w0 W r φ a m pw pm pv (k : Int) → a' = a → Calls Try.prog 45 #[.pointer (some ⟨r, 0, none⟩)] W (DonePost w0 r a mm k pw pm pv)) :
    Calls Try.prog 28 #[.pointer (some ⟨r, 0, none⟩), .int .i64 (k : Int)] w (StepPost w0 r mm pw pm pv (k : Int)) := by
  have hpw := hpl.below (h.setWho (k : Int)).base
  obtain ⟨b1, o1, c1, A1, d1, e1, hb1, hm1, hc1, hT1⟩ := hpw.at_ htxs
  have HR := Lib.hid (h.setWho (k : Int))
  have HK := Lib.hid hk
  have c10 : w.cell? ⟨r, 10, none⟩ = some (.int .i64 who0) := h.rcells 10
  have f10 := h.run.free 10
  have hlt := h.tlt hk
  have hkp : k < pl.length := (List.getElem?_eq_some_iff.1 htxs).1
  obtain ⟨n1, hn1⟩ : ∃ n, n = pl.length := ⟨_, rfl⟩
  obtain ⟨n2, hn2⟩ : ∃ n, n = txs.length := ⟨_, rfl⟩
  obtain ⟨n, hn⟩ : ∃ n, n = m.T.length := ⟨_, rfl⟩
  rw [← hn1] at e1
  rw [← hn2] at hc1
  have HC := Lib.hid (fun W (hb : Below (w.setCell ⟨r, 10, none⟩ (.int .i64 (k : Int))).heap.size (w.setCell ⟨r, 10, none⟩ (.int .i64 (k : Int))) W) => (show W.cell? ⟨r, 4, none⟩ = some (.slice (some ⟨a.gT, 0, none⟩) n a.cT) ∧ W.cell? ⟨r, 9, none⟩ = some (.slice (some ⟨b1, o1, none⟩) n1 c1) ∧ W.cell? ⟨b1, o1 + k, none⟩ = some (.slice A1 n2 d1) ∧ W.cell? ⟨a.gT, k * 11 + 1, none⟩ = some (.int .i64 (x : Int)) from
    ⟨by rw [hn]; exact (HR.out.keep hb).rcells 4, by rw [← e1]; exact (HR.out.keep hb).rcells 9, (hb.cell (p := ⟨b1, o1 + k, none⟩) hb1).trans hc1, by rw [← htx]; exact (HR.out.keep hb).tcells HK.out (j := 1) rfl⟩))
  have HME := Lib.hid (fun W (hb : Below (w.setCell ⟨r, 10, none⟩ (.int .i64 (k : Int))).heap.size (w.setCell ⟨r, 10, none⟩ (.int .i64 (k : Int))) W) => me_any (HR.out.keep hb) HK.out)
  have hk0 : (0 : Int) ≤ (k : Int) := by omega
  have hk0' : ¬ (k : Int) < 0 := by omega
  have hk1 : (k : Int) < (n1 : Int) := by omega
  have hkn : ¬ (n : Int) ≤ (k : Int) := by omega
  have hx0 : (0 : Int) ≤ (x : Int) := by omega
  have hxz : ¬ (n2 : Int) ≤ (x : Int) := by omega
  have HMM := Lib.hid HM
  have HC0 := Lib.hid (fun W (hb : Below (w.setCell ⟨r, 10, none⟩ (.int .i64 (k : Int))).heap.size (w.setCell ⟨r, 10, none⟩ (.int .i64 (k : Int))) W) => (show W.cell? ⟨a.gT, k * 11, none⟩ = some (.int .i64 3) from by have e := (HR.out.keep hb).tcells HK.out (j := 0) rfl; rw [hst] at e; simpa using e))
  have hTl : a.gT < (w.setCell ⟨r, 10, none⟩ (.int .i64 (k : Int))).heap.size := HR.out.apart.2.2.2.1
  clear h hk hpl htxs htx hpw hb1 hm1 hc1 hT1 e1 hn1 hn2 hn hkp hlt hx hst HM
  go_enter Try.func28, Try.ntmps28
  go_wp2_with fail
  refine wp_region_held_drew (S := fun W => W.cell? ⟨r, 4, none⟩ = some (.slice (some ⟨a.gT, 0, none⟩) n a.cT) ∧ W.cell? ⟨r, 9, none⟩ = some (.slice (some ⟨b1, o1, none⟩) n1 c1) ∧ W.cell? ⟨b1, o1 + k, none⟩ = some (.slice A1 n2 d1) ∧ W.cell? ⟨a.gT, k * 11 + 1, none⟩ = some (.int .i64 (x : Int))) (by kernel_rfl) ?_ (fun hHeldhr => ?_)
  · exact HC.out _ (Below.refl _ _).drew
  refine tkW 0 { dst := some 9, op := Op.move (Operand.tmp 1), type := 3, pos := "stm.go:204", after := _, guard := none } (v := ?vhr0) rfl (Or.inl ⟨by rfl, ?hyhr0⟩) ?resthr0
  case hyhr0 => (intro w hSw; (try dsimp only at hSw); go_simp <;> with_reducible rfl)
  try simp only [putW, setZ, setS]
  refine tkW 1 { dst := some 10, op := Op.binOp BinOp.lss 3 (Operand.tmp 9) (Operand.const (Value.int IntKind.i64 0)) 3, type := 4, pos := "stm.go:204", after := _, guard := none } (v := .bool false) rfl (Or.inl ⟨by rfl, ?hyhr1⟩) ?resthr1
  case hyhr1 => (intro w hSw; (try dsimp only at hSw); go_simp <;> first | done | with_reducible rfl | omega | (simp; done) | (simp; omega) | (simp [*]; done) | (simp [*]; omega) | exact decide_eq_false (by omega) | exact decide_eq_true (by omega))
  try simp only [putW, setZ, setS]
  refine tkW 2 { dst := some 11, op := Op.move (Operand.tmp 10), type := 4, pos := "stm.go:204", after := _, guard := none } (v := ?vhr2) rfl (Or.inl ⟨by rfl, ?hyhr2⟩) ?resthr2
  case hyhr2 => (intro w hSw; (try dsimp only at hSw); go_simp <;> with_reducible rfl)
  try simp only [putW, setZ, setS]
  refine tkW 3 { dst := some 12, op := Op.move (Operand.tmp 1), type := 3, pos := "stm.go:204", after := _, guard := some (2, false) } (v := ?vhr3) rfl (Or.inl ⟨by rfl, ?hyhr3⟩) ?resthr3
  case hyhr3 => (intro w hSw; (try dsimp only at hSw); go_simp <;> with_reducible rfl)
  try simp only [putW, setZ, setS]
  refine tkW 4 { dst := some 13, op := Op.move (Operand.tmp 0), type := 68, pos := "stm.go:204", after := _, guard := some (2, false) } (v := ?vhr4) rfl (Or.inl ⟨by rfl, ?hyhr4⟩) ?resthr4
  case hyhr4 => (intro w hSw; (try dsimp only at hSw); go_simp <;> with_reducible rfl)
  try simp only [putW, setZ, setS]
  refine tkW 5 { dst := some 14, op := Op.nilCheck (Operand.tmp 13), type := 0, pos := "stm.go:204", after := _, guard := some (2, false) } (v := ?vhr5) rfl (Or.inl ⟨by rfl, ?hyhr5⟩) ?resthr5
  case hyhr5 => (intro w hSw; (try dsimp only at hSw); go_simp <;> with_reducible rfl)
  try simp only [putW, setZ, setS]
  refine tkW 6 { dst := some 15, op := Op.fieldAddr 70 (Operand.tmp 14) 0, type := 0, pos := "stm.go:204", after := _, guard := some (2, false) } (v := ?vhr6) rfl (Or.inl ⟨by rfl, ?hyhr6⟩) ?resthr6
  case hyhr6 => (intro w hSw; (try dsimp only at hSw); go_simp <;> with_reducible rfl)
  try simp only [putW, setZ, setS]
  refine tkW 7 { dst := some 16, op := Op.fieldAddr 46 (Operand.tmp 15) 2, type := 0, pos := "stm.go:204", after := _, guard := some (2, false) } (v := ?vhr7) rfl (Or.inl ⟨by rfl, ?hyhr7⟩) ?resthr7
  case hyhr7 => (intro w hSw; (try dsimp only at hSw); go_simp <;> with_reducible rfl)
  try simp only [putW, setZ, setS]
  refine tkW 8 { dst := some 17, op := Op.load 44 (Operand.tmp 16), type := 44, pos := "stm.go:204", after := _, guard := some (2, false) } (v := ?vhr8) rfl (Or.inl ⟨by rfl, ?hyhr8⟩) ?resthr8
  case hyhr8 => (intro w hSw; (try dsimp only at hSw); go_simp <;> with_reducible rfl)
  try simp only [putW, setZ, setS]
  refine tkW 9 { dst := some 18, op := Op.call { callee := Callee.builtin Builtin.len, args := #[Operand.tmp 17], argTypes := #[44] }, type := 3, pos := "stm.go:204", after := _, guard := some (2, false) } (v := ?vhr9) rfl (Or.inl ⟨by rfl, ?hyhr9⟩) ?resthr9
  case hyhr9 => (intro w hSw; (try dsimp only at hSw); go_simp <;> with_reducible rfl)
  try simp only [putW, setZ, setS]
  refine tkW 10 { dst := some 19, op := Op.binOp BinOp.geq 3 (Operand.tmp 12) (Operand.tmp 18) 3, type := 4, pos := "stm.go:204", after := _, guard := some (2, false) } (v := .bool false) rfl (Or.inl ⟨by rfl, ?hyhr10⟩) ?resthr10
  case hyhr10 => (intro w hSw; (try dsimp only at hSw); go_simp <;> first | done | with_reducible rfl | omega | (simp; done) | (simp; omega) | (simp [*]; done) | (simp [*]; omega) | exact decide_eq_false (by omega) | exact decide_eq_true (by omega))
  try simp only [putW, setZ, setS]
  refine tkW 11 { dst := some 20, op := Op.pick (Operand.tmp 11) (Operand.const (Value.bool true)) (Operand.tmp 19), type := 4, pos := "stm.go:204", after := _, guard := none } (v := ?vhr11) rfl (Or.inl ⟨by rfl, ?hyhr11⟩) ?resthr11
  case hyhr11 => (intro w hSw; (try dsimp only at hSw); go_simp <;> with_reducible rfl)
  try simp only [putW, setZ, setS]
  refine tkW 12 { dst := some 21, op := Op.move (Operand.tmp 20), type := 4, pos := "stm.go:204", after := _, guard := none } (v := ?vhr12) rfl (Or.inl ⟨by rfl, ?hyhr12⟩) ?resthr12
  case hyhr12 => (intro w hSw; (try dsimp only at hSw); go_simp <;> with_reducible rfl)
  try simp only [putW, setZ, setS]
  refine tkW 13 { dst := some 22, op := Op.move (Operand.tmp 0), type := 68, pos := "stm.go:204", after := _, guard := some (12, false) } (v := ?vhr13) rfl (Or.inl ⟨by rfl, ?hyhr13⟩) ?resthr13
  case hyhr13 => (intro w hSw; (try dsimp only at hSw); go_simp <;> with_reducible rfl)
  try simp only [putW, setZ, setS]
  refine tkW 18 { dst := some 27, op := Op.move (Operand.tmp 0), type := 68, pos := "stm.go:204", after := _, guard := some (12, false) } (v := ?vhr18) rfl (Or.inl ⟨by rfl, ?hyhr18⟩) ?resthr18
  case hyhr18 => (intro w hSw; (try dsimp only at hSw); go_simp <;> with_reducible rfl)
  try simp only [putW, setZ, setS]
  refine tkW 19 { dst := some 28, op := Op.nilCheck (Operand.tmp 27), type := 0, pos := "stm.go:204", after := _, guard := some (12, false) } (v := ?vhr19) rfl (Or.inl ⟨by rfl, ?hyhr19⟩) ?resthr19
  case hyhr19 => (intro w hSw; (try dsimp only at hSw); go_simp <;> with_reducible rfl)
  try simp only [putW, setZ, setS]
  refine tkW 20 { dst := some 29, op := Op.fieldAddr 70 (Operand.tmp 28) 1, type := 0, pos := "stm.go:204", after := _, guard := some (12, false) } (v := ?vhr20) rfl (Or.inl ⟨by rfl, ?hyhr20⟩) ?resthr20
  case hyhr20 => (intro w hSw; (try dsimp only at hSw); go_simp <;> with_reducible rfl)
  try simp only [putW, setZ, setS]
  refine tkW 21 { dst := some 30, op := Op.fieldAddr 39 (Operand.tmp 29) 2, type := 0, pos := "stm.go:204", after := _, guard := some (12, false) } (v := ?vhr21) rfl (Or.inl ⟨by rfl, ?hyhr21⟩) ?resthr21
  case hyhr21 => (intro w hSw; (try dsimp only at hSw); go_simp <;> with_reducible rfl)
  try simp only [putW, setZ, setS]
  refine tkW 22 { dst := some 31, op := Op.load 37 (Operand.tmp 30), type := 37, pos := "stm.go:204", after := _, guard := some (12, false) } (v := ?vhr22) rfl (Or.inl ⟨by rfl, ?hyhr22⟩) ?resthr22
  case hyhr22 => (intro w hSw; (try dsimp only at hSw); go_simp <;> with_reducible rfl)
  try simp only [putW, setZ, setS]
  refine tkW 23 { dst := some 32, op := Op.move (Operand.tmp 1), type := 3, pos := "stm.go:204", after := _, guard := some (12, false) } (v := ?vhr23) rfl (Or.inl ⟨by rfl, ?hyhr23⟩) ?resthr23
  case hyhr23 => (intro w hSw; (try dsimp only at hSw); go_simp <;> with_reducible rfl)
  try simp only [putW, setZ, setS]
  refine tkW 24 { dst := some 33, op := Op.indexAddr 37 (Operand.tmp 31) (Operand.tmp 32), type := 0, pos := "stm.go:204", after := _, guard := some (12, false) } (v := ?vhr24) rfl (Or.inl ⟨by rfl, ?hyhr24⟩) ?resthr24
  case hyhr24 => (intro w hSw; (try dsimp only at hSw); go_simp <;> with_reducible rfl)
  try simp only [putW, setZ, setS]
  refine tkW 25 { dst := some 34, op := Op.load 63 (Operand.tmp 33), type := 63, pos := "stm.go:204", after := _, guard := some (12, false) } (v := ?vhr25) rfl (Or.inl ⟨by rfl, ?hyhr25⟩) ?resthr25
  case hyhr25 => (intro w hSw; (try dsimp only at hSw); go_simp <;> with_reducible rfl)
  try simp only [putW, setZ, setS]
  refine tkW 26 { dst := some 35, op := Op.call { callee := Callee.builtin Builtin.len, args := #[Operand.tmp 34], argTypes := #[63] }, type := 3, pos := "stm.go:204", after := _, guard := some (12, false) } (v := ?vhr26) rfl (Or.inl ⟨by rfl, ?hyhr26⟩) ?resthr26
  case hyhr26 => (intro w hSw; (try dsimp only at hSw); go_simp <;> with_reducible rfl)
  try simp only [putW, setZ, setS]
  refine wpAnyH_ready (rs := [14]) (by kernel_rfl) (by simp) ?_
  refine AllReadyH.cons (o := { dst := some 23, op := Op.call { callee := Callee.value (Operand.func 41), args := #[Operand.tmp 22], argTypes := #[68] }, type := 84, pos := "stm.go:204", after := _, guard := some (12, false) }) rfl (fun K hK => ?_) AllReadyH.nil
  go_simp
  refine (HME.out _ (Below.refl _ _).drew).mono ?_
  rintro e w1 ⟨rfl, hb1'⟩
  have HB1 := Lib.hid ((Below.refl _ _).drew.trans hb1')
  clear hb1'
  try go_wp2_with fail
  refine hK.out _ _ ?_ (fun hHeldhr14 => ?_)
  · exact HC.out _ HB1.out
  clear hK K hHeldhr
  try simp only [Act.put, List.setIfInBounds_toArray, List.set_cons_zero, List.set_cons_succ]
  refine tkW 15 { dst := some 24, op := Op.nilCheck (Operand.tmp 23), type := 0, pos := "stm.go:204", after := _, guard := some (12, false) } (v := ?vhr15) rfl (Or.inl ⟨by rfl, ?hyhr15⟩) ?resthr15
  case hyhr15 => (intro w hSw; (try dsimp only at hSw); go_simp <;> with_reducible rfl)
  try simp only [putW, setZ, setS]
  refine tkW 16 { dst := some 25, op := Op.fieldAddr 52 (Operand.tmp 24) 1, type := 0, pos := "stm.go:204", after := _, guard := some (12, false) } (v := ?vhr16) rfl (Or.inl ⟨by rfl, ?hyhr16⟩) ?resthr16
  case hyhr16 => (intro w hSw; (try dsimp only at hSw); go_simp <;> with_reducible rfl)
  try simp only [putW, setZ, setS]
  refine tkW 17 { dst := some 26, op := Op.load 3 (Operand.tmp 25), type := 3, pos := "stm.go:204", after := _, guard := some (12, false) } (v := ?vhr17) rfl (Or.inl ⟨by rfl, ?hyhr17⟩) ?resthr17
  case hyhr17 => (intro w hSw; (try dsimp only at hSw); go_simp <;> with_reducible rfl)
  try simp only [putW, setZ, setS]
  refine tkW 27 { dst := some 36, op := Op.binOp BinOp.geq 3 (Operand.tmp 26) (Operand.tmp 35) 3, type := 4, pos := "stm.go:204", after := _, guard := some (12, false) } (v := .bool false) rfl (Or.inl ⟨by rfl, ?hyhr27⟩) ?resthr27
  case hyhr27 => (intro w hSw; (try dsimp only at hSw); go_simp <;> first | done | with_reducible rfl | omega | (simp; done) | (simp; omega) | (simp [*]; done) | (simp [*]; omega) | exact decide_eq_false (by omega) | exact decide_eq_true (by omega))
  try simp only [putW, setZ, setS]
  refine tkW 28 { dst := some 37, op := Op.pick (Operand.tmp 21) (Operand.const (Value.bool true)) (Operand.tmp 36), type := 4, pos := "stm.go:204", after := _, guard := none } (v := ?vhr28) rfl (Or.inl ⟨by rfl, ?hyhr28⟩) ?resthr28
  case hyhr28 => (intro w hSw; (try dsimp only at hSw); go_simp <;> with_reducible rfl)
  try simp only [putW, setZ, setS]
  refine wpAnyH_done (by kernel_rfl) ?_ _

  obtain ⟨fs, hfs⟩ : ∃ fs : Array Value, fs = #[.func (.func 42) #[.pointer (some ⟨r, 0, none⟩)] #[], .func (.func 43) #[.pointer (some ⟨r, 0, none⟩)] #[], .func (.func 44) #[.pointer (some ⟨r, 0, none⟩)] #[], .func (.func 45) #[.pointer (some ⟨r, 0, none⟩)] #[], .func (.func 46) #[.pointer (some ⟨r, 0, none⟩)] #[], .func (.func 47) #[.pointer (some ⟨r, 0, none⟩)] #[]] := ⟨_, rfl⟩
  have HF := Lib.hid hfs
  clear hfs
  go_wp2_with (refine wpList_store_new rfl 86 _ _ rfl fs (by rfl) (by rw [HF.out]; rfl) (by rw [HF.out]; rfl) (by rw [HF.out]; exact ways_size) (by rw [HF.out]; simp [Value.oneCell']) ?_; intro w2 hB2 hb2; have HB2 := Lib.hid hB2; have hW2 := HB1.out.trans (hb2.mono HB1.out.size); have HW2 := Lib.hid hW2; clear hB2 hb2 hW2)
  refine (HME.out _ HW2.out).mono ?_
  rintro e w3 ⟨rfl, hb3⟩
  have HB3 := Lib.hid hb3
  have HW3 := Lib.hid (HW2.out.trans (hb3.mono HW2.out.size))
  have q0 := HC0.out _ HW3.out
  have qf : w3.cell? ⟨w1.heap.size, 3, none⟩ = some (.func (.func 45) #[.pointer (some ⟨r, 0, none⟩)] #[]) := by rw [(HB2.out.keep HB3.out).cell, HF.out]; rfl
  have H3 := Lib.hid (HR.out.keep HW3.out)
  have hl1 : w1.heap.size < w3.heap.size := (HB2.out.keep HB3.out).lt
  clear hb3
  go_wp2_with fail
  refine (HMM.out _ _ H3.out rfl).mono ?_
  rintro e w4 ⟨rfl, φ4, a4, m4, h4, e4⟩
  have H4 := Lib.hid h4
  have HE4 := Lib.hid e4
  clear h4 e4
  go_wp2
  go_end0
  exact ⟨rfl, _, _, _, H4.out, HE4.out⟩

set_option maxHeartbeats 4000000 in
theorem step_check {who0 : Int} (h : RunW w0 w r φ a m pw pm pv who0) {k : Nat} {t : Tx} (hk : m.T[k]? = some t) {pl : List (List (List Ac))} (hpl : PlV w0 pv pl) {txs : List (List Ac)} (htxs : pl[k]? = some txs) (x : Nat) (htx : t.tx = (x : Int)) (hx : x < txs.length) (hst : t.st = 4) {mm : Mm}
    (HM : ∀ W a', RunW w0 W r φ a m pw pm pv (k : Int) → a' = a → Calls Try.prog 46 #[.pointer (some ⟨r, 0, none⟩)] W (DonePost w0 r a mm k pw pm pv)) :
    Calls Try.prog 28 #[.pointer (some ⟨r, 0, none⟩), .int .i64 (k : Int)] w (StepPost w0 r mm pw pm pv (k : Int)) := by
  have hpw := hpl.below (h.setWho (k : Int)).base
  obtain ⟨b1, o1, c1, A1, d1, e1, hb1, hm1, hc1, hT1⟩ := hpw.at_ htxs
  have HR := Lib.hid (h.setWho (k : Int))
  have HK := Lib.hid hk
  have c10 : w.cell? ⟨r, 10, none⟩ = some (.int .i64 who0) := h.rcells 10
  have f10 := h.run.free 10
  have hlt := h.tlt hk
  have hkp : k < pl.length := (List.getElem?_eq_some_iff.1 htxs).1
  obtain ⟨n1, hn1⟩ : ∃ n, n = pl.length := ⟨_, rfl⟩
  obtain ⟨n2, hn2⟩ : ∃ n, n = txs.length := ⟨_, rfl⟩
  obtain ⟨n, hn⟩ : ∃ n, n = m.T.length := ⟨_, rfl⟩
  rw [← hn1] at e1
  rw [← hn2] at hc1
  have HC := Lib.hid (fun W (hb : Below (w.setCell ⟨r, 10, none⟩ (.int .i64 (k : Int))).heap.size (w.setCell ⟨r, 10, none⟩ (.int .i64 (k : Int))) W) => (show W.cell? ⟨r, 4, none⟩ = some (.slice (some ⟨a.gT, 0, none⟩) n a.cT) ∧ W.cell? ⟨r, 9, none⟩ = some (.slice (some ⟨b1, o1, none⟩) n1 c1) ∧ W.cell? ⟨b1, o1 + k, none⟩ = some (.slice A1 n2 d1) ∧ W.cell? ⟨a.gT, k * 11 + 1, none⟩ = some (.int .i64 (x : Int)) from
    ⟨by rw [hn]; exact (HR.out.keep hb).rcells 4, by rw [← e1]; exact (HR.out.keep hb).rcells 9, (hb.cell (p := ⟨b1, o1 + k, none⟩) hb1).trans hc1, by rw [← htx]; exact (HR.out.keep hb).tcells HK.out (j := 1) rfl⟩))
  have HME := Lib.hid (fun W (hb : Below (w.setCell ⟨r, 10, none⟩ (.int .i64 (k : Int))).heap.size (w.setCell ⟨r, 10, none⟩ (.int .i64 (k : Int))) W) => me_any (HR.out.keep hb) HK.out)
  have hk0 : (0 : Int) ≤ (k : Int) := by omega
  have hk0' : ¬ (k : Int) < 0 := by omega
  have hk1 : (k : Int) < (n1 : Int) := by omega
  have hkn : ¬ (n : Int) ≤ (k : Int) := by omega
  have hx0 : (0 : Int) ≤ (x : Int) := by omega
  have hxz : ¬ (n2 : Int) ≤ (x : Int) := by omega
  have HMM := Lib.hid HM
  have HC0 := Lib.hid (fun W (hb : Below (w.setCell ⟨r, 10, none⟩ (.int .i64 (k : Int))).heap.size (w.setCell ⟨r, 10, none⟩ (.int .i64 (k : Int))) W) => (show W.cell? ⟨a.gT, k * 11, none⟩ = some (.int .i64 4) from by have e := (HR.out.keep hb).tcells HK.out (j := 0) rfl; rw [hst] at e; simpa using e))
  have hTl : a.gT < (w.setCell ⟨r, 10, none⟩ (.int .i64 (k : Int))).heap.size := HR.out.apart.2.2.2.1
  clear h hk hpl htxs htx hpw hb1 hm1 hc1 hT1 e1 hn1 hn2 hn hkp hlt hx hst HM
  go_enter Try.func28, Try.ntmps28
  go_wp2_with fail
  refine wp_region_held_drew (S := fun W => W.cell? ⟨r, 4, none⟩ = some (.slice (some ⟨a.gT, 0, none⟩) n a.cT) ∧ W.cell? ⟨r, 9, none⟩ = some (.slice (some ⟨b1, o1, none⟩) n1 c1) ∧ W.cell? ⟨b1, o1 + k, none⟩ = some (.slice A1 n2 d1) ∧ W.cell? ⟨a.gT, k * 11 + 1, none⟩ = some (.int .i64 (x : Int))) (by kernel_rfl) ?_ (fun hHeldir => ?_)
  · exact HC.out _ (Below.refl _ _).drew
  refine tkW 0 { dst := some 9, op := Op.move (Operand.tmp 1), type := 3, pos := "stm.go:204", after := _, guard := none } (v := ?vir0) rfl (Or.inl ⟨by rfl, ?hyir0⟩) ?restir0
  case hyir0 => (intro w hSw; (try dsimp only at hSw); go_simp <;> with_reducible rfl)
  try simp only [putW, setZ, setS]
  refine tkW 1 { dst := some 10, op := Op.binOp BinOp.lss 3 (Operand.tmp 9) (Operand.const (Value.int IntKind.i64 0)) 3, type := 4, pos := "stm.go:204", after := _, guard := none } (v := .bool false) rfl (Or.inl ⟨by rfl, ?hyir1⟩) ?restir1
  case hyir1 => (intro w hSw; (try dsimp only at hSw); go_simp <;> first | done | with_reducible rfl | omega | (simp; done) | (simp; omega) | (simp [*]; done) | (simp [*]; omega) | exact decide_eq_false (by omega) | exact decide_eq_true (by omega))
  try simp only [putW, setZ, setS]
  refine tkW 2 { dst := some 11, op := Op.move (Operand.tmp 10), type := 4, pos := "stm.go:204", after := _, guard := none } (v := ?vir2) rfl (Or.inl ⟨by rfl, ?hyir2⟩) ?restir2
  case hyir2 => (intro w hSw; (try dsimp only at hSw); go_simp <;> with_reducible rfl)
  try simp only [putW, setZ, setS]
  refine tkW 3 { dst := some 12, op := Op.move (Operand.tmp 1), type := 3, pos := "stm.go:204", after := _, guard := some (2, false) } (v := ?vir3) rfl (Or.inl ⟨by rfl, ?hyir3⟩) ?restir3
  case hyir3 => (intro w hSw; (try dsimp only at hSw); go_simp <;> with_reducible rfl)
  try simp only [putW, setZ, setS]
  refine tkW 4 { dst := some 13, op := Op.move (Operand.tmp 0), type := 68, pos := "stm.go:204", after := _, guard := some (2, false) } (v := ?vir4) rfl (Or.inl ⟨by rfl, ?hyir4⟩) ?restir4
  case hyir4 => (intro w hSw; (try dsimp only at hSw); go_simp <;> with_reducible rfl)
  try simp only [putW, setZ, setS]
  refine tkW 5 { dst := some 14, op := Op.nilCheck (Operand.tmp 13), type := 0, pos := "stm.go:204", after := _, guard := some (2, false) } (v := ?vir5) rfl (Or.inl ⟨by rfl, ?hyir5⟩) ?restir5
  case hyir5 => (intro w hSw; (try dsimp only at hSw); go_simp <;> with_reducible rfl)
  try simp only [putW, setZ, setS]
  refine tkW 6 { dst := some 15, op := Op.fieldAddr 70 (Operand.tmp 14) 0, type := 0, pos := "stm.go:204", after := _, guard := some (2, false) } (v := ?vir6) rfl (Or.inl ⟨by rfl, ?hyir6⟩) ?restir6
  case hyir6 => (intro w hSw; (try dsimp only at hSw); go_simp <;> with_reducible rfl)
  try simp only [putW, setZ, setS]
  refine tkW 7 { dst := some 16, op := Op.fieldAddr 46 (Operand.tmp 15) 2, type := 0, pos := "stm.go:204", after := _, guard := some (2, false) } (v := ?vir7) rfl (Or.inl ⟨by rfl, ?hyir7⟩) ?restir7
  case hyir7 => (intro w hSw; (try dsimp only at hSw); go_simp <;> with_reducible rfl)
  try simp only [putW, setZ, setS]
  refine tkW 8 { dst := some 17, op := Op.load 44 (Operand.tmp 16), type := 44, pos := "stm.go:204", after := _, guard := some (2, false) } (v := ?vir8) rfl (Or.inl ⟨by rfl, ?hyir8⟩) ?restir8
  case hyir8 => (intro w hSw; (try dsimp only at hSw); go_simp <;> with_reducible rfl)
  try simp only [putW, setZ, setS]
  refine tkW 9 { dst := some 18, op := Op.call { callee := Callee.builtin Builtin.len, args := #[Operand.tmp 17], argTypes := #[44] }, type := 3, pos := "stm.go:204", after := _, guard := some (2, false) } (v := ?vir9) rfl (Or.inl ⟨by rfl, ?hyir9⟩) ?restir9
  case hyir9 => (intro w hSw; (try dsimp only at hSw); go_simp <;> with_reducible rfl)
  try simp only [putW, setZ, setS]
  refine tkW 10 { dst := some 19, op := Op.binOp BinOp.geq 3 (Operand.tmp 12) (Operand.tmp 18) 3, type := 4, pos := "stm.go:204", after := _, guard := some (2, false) } (v := .bool false) rfl (Or.inl ⟨by rfl, ?hyir10⟩) ?restir10
  case hyir10 => (intro w hSw; (try dsimp only at hSw); go_simp <;> first | done | with_reducible rfl | omega | (simp; done) | (simp; omega) | (simp [*]; done) | (simp [*]; omega) | exact decide_eq_false (by omega) | exact decide_eq_true (by omega))
  try simp only [putW, setZ, setS]
  refine tkW 11 { dst := some 20, op := Op.pick (Operand.tmp 11) (Operand.const (Value.bool true)) (Operand.tmp 19), type := 4, pos := "stm.go:204", after := _, guard := none } (v := ?vir11) rfl (Or.inl ⟨by rfl, ?hyir11⟩) ?restir11
  case hyir11 => (intro w hSw; (try dsimp only at hSw); go_simp <;> with_reducible rfl)
  try simp only [putW, setZ, setS]
  refine tkW 12 { dst := some 21, op := Op.move (Operand.tmp 20), type := 4, pos := "stm.go:204", after := _, guard := none } (v := ?vir12) rfl (Or.inl ⟨by rfl, ?hyir12⟩) ?restir12
  case hyir12 => (intro w hSw; (try dsimp only at hSw); go_simp <;> with_reducible rfl)
  try simp only [putW, setZ, setS]
  refine tkW 13 { dst := some 22, op := Op.move (Operand.tmp 0), type := 68, pos := "stm.go:204", after := _, guard := some (12, false) } (v := ?vir13) rfl (Or.inl ⟨by rfl, ?hyir13⟩) ?restir13
  case hyir13 => (intro w hSw; (try dsimp only at hSw); go_simp <;> with_reducible rfl)
  try simp only [putW, setZ, setS]
  refine tkW 18 { dst := some 27, op := Op.move (Operand.tmp 0), type := 68, pos := "stm.go:204", after := _, guard := some (12, false) } (v := ?vir18) rfl (Or.inl ⟨by rfl, ?hyir18⟩) ?restir18
  case hyir18 => (intro w hSw; (try dsimp only at hSw); go_simp <;> with_reducible rfl)
  try simp only [putW, setZ, setS]
  refine tkW 19 { dst := some 28, op := Op.nilCheck (Operand.tmp 27), type := 0, pos := "stm.go:204", after := _, guard := some (12, false) } (v := ?vir19) rfl (Or.inl ⟨by rfl, ?hyir19⟩) ?restir19
  case hyir19 => (intro w hSw; (try dsimp only at hSw); go_simp <;> with_reducible rfl)
  try simp only [putW, setZ, setS]
  refine tkW 20 { dst := some 29, op := Op.fieldAddr 70 (Operand.tmp 28) 1, type := 0, pos := "stm.go:204", after := _, guard := some (12, false) } (v := ?vir20) rfl (Or.inl ⟨by rfl, ?hyir20⟩) ?restir20
  case hyir20 => (intro w hSw; (try dsimp only at hSw); go_simp <;> with_reducible rfl)
  try simp only [putW, setZ, setS]
  refine tkW 21 { dst := some 30, op := Op.fieldAddr 39 (Operand.tmp 29) 2, type := 0, pos := "stm.go:204", after := _, guard := some (12, false) } (v := ?vir21) rfl (Or.inl ⟨by rfl, ?hyir21⟩) ?restir21
  case hyir21 => (intro w hSw; (try dsimp only at hSw); go_simp <;> with_reducible rfl)
  try simp only [putW, setZ, setS]
  refine tkW 22 { dst := some 31, op := Op.load 37 (Operand.tmp 30), type := 37, pos := "stm.go:204", after := _, guard := some (12, false) } (v := ?vir22) rfl (Or.inl ⟨by rfl, ?hyir22⟩) ?restir22
  case hyir22 => (intro w hSw; (try dsimp only at hSw); go_simp <;> with_reducible rfl)
  try simp only [putW, setZ, setS]
  refine tkW 23 { dst := some 32, op := Op.move (Operand.tmp 1), type := 3, pos := "stm.go:204", after := _, guard := some (12, false) } (v := ?vir23) rfl (Or.inl ⟨by rfl, ?hyir23⟩) ?restir23
  case hyir23 => (intro w hSw; (try dsimp only at hSw); go_simp <;> with_reducible rfl)
  try simp only [putW, setZ, setS]
  refine tkW 24 { dst := some 33, op := Op.indexAddr 37 (Operand.tmp 31) (Operand.tmp 32), type := 0, pos := "stm.go:204", after := _, guard := some (12, false) } (v := ?vir24) rfl (Or.inl ⟨by rfl, ?hyir24⟩) ?restir24
  case hyir24 => (intro w hSw; (try dsimp only at hSw); go_simp <;> with_reducible rfl)
  try simp only [putW, setZ, setS]
  refine tkW 25 { dst := some 34, op := Op.load 63 (Operand.tmp 33), type := 63, pos := "stm.go:204", after := _, guard := some (12, false) } (v := ?vir25) rfl (Or.inl ⟨by rfl, ?hyir25⟩) ?restir25
  case hyir25 => (intro w hSw; (try dsimp only at hSw); go_simp <;> with_reducible rfl)
  try simp only [putW, setZ, setS]
  refine tkW 26 { dst := some 35, op := Op.call { callee := Callee.builtin Builtin.len, args := #[Operand.tmp 34], argTypes := #[63] }, type := 3, pos := "stm.go:204", after := _, guard := some (12, false) } (v := ?vir26) rfl (Or.inl ⟨by rfl, ?hyir26⟩) ?restir26
  case hyir26 => (intro w hSw; (try dsimp only at hSw); go_simp <;> with_reducible rfl)
  try simp only [putW, setZ, setS]
  refine wpAnyH_ready (rs := [14]) (by kernel_rfl) (by simp) ?_
  refine AllReadyH.cons (o := { dst := some 23, op := Op.call { callee := Callee.value (Operand.func 41), args := #[Operand.tmp 22], argTypes := #[68] }, type := 84, pos := "stm.go:204", after := _, guard := some (12, false) }) rfl (fun K hK => ?_) AllReadyH.nil
  go_simp
  refine (HME.out _ (Below.refl _ _).drew).mono ?_
  rintro e w1 ⟨rfl, hb1'⟩
  have HB1 := Lib.hid ((Below.refl _ _).drew.trans hb1')
  clear hb1'
  try go_wp2_with fail
  refine hK.out _ _ ?_ (fun hHeldir14 => ?_)
  · exact HC.out _ HB1.out
  clear hK K hHeldir
  try simp only [Act.put, List.setIfInBounds_toArray, List.set_cons_zero, List.set_cons_succ]
  refine tkW 15 { dst := some 24, op := Op.nilCheck (Operand.tmp 23), type := 0, pos := "stm.go:204", after := _, guard := some (12, false) } (v := ?vir15) rfl (Or.inl ⟨by rfl, ?hyir15⟩) ?restir15
  case hyir15 => (intro w hSw; (try dsimp only at hSw); go_simp <;> with_reducible rfl)
  try simp only [putW, setZ, setS]
  refine tkW 16 { dst := some 25, op := Op.fieldAddr 52 (Operand.tmp 24) 1, type := 0, pos := "stm.go:204", after := _, guard := some (12, false) } (v := ?vir16) rfl (Or.inl ⟨by rfl, ?hyir16⟩) ?restir16
  case hyir16 => (intro w hSw; (try dsimp only at hSw); go_simp <;> with_reducible rfl)
  try simp only [putW, setZ, setS]
  refine tkW 17 { dst := some 26, op := Op.load 3 (Operand.tmp 25), type := 3, pos := "stm.go:204", after := _, guard := some (12, false) } (v := ?vir17) rfl (Or.inl ⟨by rfl, ?hyir17⟩) ?restir17
  case hyir17 => (intro w hSw; (try dsimp only at hSw); go_simp <;> with_reducible rfl)
  try simp only [putW, setZ, setS]
  refine tkW 27 { dst := some 36, op := Op.binOp BinOp.geq 3 (Operand.tmp 26) (Operand.tmp 35) 3, type := 4, pos := "stm.go:204", after := _, guard := some (12, false) } (v := .bool false) rfl (Or.inl ⟨by rfl, ?hyir27⟩) ?restir27
  case hyir27 => (intro w hSw; (try dsimp only at hSw); go_simp <;> first | done | with_reducible rfl | omega | (simp; done) | (simp; omega) | (simp [*]; done) | (simp [*]; omega) | exact decide_eq_false (by omega) | exact decide_eq_true (by omega))
  try simp only [putW, setZ, setS]
  refine tkW 28 { dst := some 37, op := Op.pick (Operand.tmp 21) (Operand.const (Value.bool true)) (Operand.tmp 36), type := 4, pos := "stm.go:204", after := _, guard := none } (v := ?vir28) rfl (Or.inl ⟨by rfl, ?hyir28⟩) ?restir28
  case hyir28 => (intro w hSw; (try dsimp only at hSw); go_simp <;> with_reducible rfl)
  try simp only [putW, setZ, setS]
  refine wpAnyH_done (by kernel_rfl) ?_ _

  obtain ⟨fs, hfs⟩ : ∃ fs : Array Value, fs = #[.func (.func 42) #[.pointer (some ⟨r, 0, none⟩)] #[], .func (.func 43) #[.pointer (some ⟨r, 0, none⟩)] #[], .func (.func 44) #[.pointer (some ⟨r, 0, none⟩)] #[], .func (.func 45) #[.pointer (some ⟨r, 0, none⟩)] #[], .func (.func 46) #[.pointer (some ⟨r, 0, none⟩)] #[], .func (.func 47) #[.pointer (some ⟨r, 0, none⟩)] #[]] := ⟨_, rfl⟩
  have HF := Lib.hid hfs
  clear hfs
  go_wp2_with (refine wpList_store_new rfl 86 _ _ rfl fs (by rfl) (by rw [HF.out]; rfl) (by rw [HF.out]; rfl) (by rw [HF.out]; exact ways_size) (by rw [HF.out]; simp [Value.oneCell']) ?_; intro w2 hB2 hb2; have HB2 := Lib.hid hB2; have hW2 := HB1.out.trans (hb2.mono HB1.out.size); have HW2 := Lib.hid hW2; clear hB2 hb2 hW2)
  refine (HME.out _ HW2.out).mono ?_
  rintro e w3 ⟨rfl, hb3⟩
  have HB3 := Lib.hid hb3
  have HW3 := Lib.hid (HW2.out.trans (hb3.mono HW2.out.size))
  have q0 := HC0.out _ HW3.out
  have qf : w3.cell? ⟨w1.heap.size, 4, none⟩ = some (.func (.func 46) #[.pointer (some ⟨r, 0, none⟩)] #[]) := by rw [(HB2.out.keep HB3.out).cell, HF.out]; rfl
  have H3 := Lib.hid (HR.out.keep HW3.out)
  have hl1 : w1.heap.size < w3.heap.size := (HB2.out.keep HB3.out).lt
  clear hb3
  go_wp2_with fail
  refine (HMM.out _ _ H3.out rfl).mono ?_
  rintro e w4 ⟨rfl, φ4, a4, m4, h4, e4⟩
  have H4 := Lib.hid h4
  have HE4 := Lib.hid e4
  clear h4 e4
  go_wp2
  go_end0
  exact ⟨rfl, _, _, _, H4.out, HE4.out⟩

set_option maxHeartbeats 4000000 in
theorem step_back {who0 : Int} (h : RunW w0 w r φ a m pw pm pv who0) {k : Nat} {t : Tx} (hk : m.T[k]? = some t) {pl : List (List (List Ac))} (hpl : PlV w0 pv pl) {txs : List (List Ac)} (htxs : pl[k]? = some txs) (x : Nat) (htx : t.tx = (x : Int)) (hx : x < txs.length) (hst : t.st = 5) {mm : Mm}
    (HM : ∀ W a', RunW w0 W r φ a m pw pm pv (k : Int) → a' = a → Calls Try.prog 47 #[.pointer (some ⟨r, 0, none⟩)] W (DonePost w0 r a mm k pw pm pv)) :
    Calls Try.prog 28 #[.pointer (some ⟨r, 0, none⟩), .int .i64 (k : Int)] w (StepPost w0 r mm pw pm pv (k : Int)) := by
  have hpw := hpl.below (h.setWho (k : Int)).base
  obtain ⟨b1, o1, c1, A1, d1, e1, hb1, hm1, hc1, hT1⟩ := hpw.at_ htxs
  have HR := Lib.hid (h.setWho (k : Int))
  have HK := Lib.hid hk
  have c10 : w.cell? ⟨r, 10, none⟩ = some (.int .i64 who0) := h.rcells 10
  have f10 := h.run.free 10
  have hlt := h.tlt hk
  have hkp : k < pl.length := (List.getElem?_eq_some_iff.1 htxs).1
  obtain ⟨n1, hn1⟩ : ∃ n, n = pl.length := ⟨_, rfl⟩
  obtain ⟨n2, hn2⟩ : ∃ n, n = txs.length := ⟨_, rfl⟩
  obtain ⟨n, hn⟩ : ∃ n, n = m.T.length := ⟨_, rfl⟩
  rw [← hn1] at e1
  rw [← hn2] at hc1
  have HC := Lib.hid (fun W (hb : Below (w.setCell ⟨r, 10, none⟩ (.int .i64 (k : Int))).heap.size (w.setCell ⟨r, 10, none⟩ (.int .i64 (k : Int))) W) => (show W.cell? ⟨r, 4, none⟩ = some (.slice (some ⟨a.gT, 0, none⟩) n a.cT) ∧ W.cell? ⟨r, 9, none⟩ = some (.slice (some ⟨b1, o1, none⟩) n1 c1) ∧ W.cell? ⟨b1, o1 + k, none⟩ = some (.slice A1 n2 d1) ∧ W.cell? ⟨a.gT, k * 11 + 1, none⟩ = some (.int .i64 (x : Int)) from
    ⟨by rw [hn]; exact (HR.out.keep hb).rcells 4, by rw [← e1]; exact (HR.out.keep hb).rcells 9, (hb.cell (p := ⟨b1, o1 + k, none⟩) hb1).trans hc1, by rw [← htx]; exact (HR.out.keep hb).tcells HK.out (j := 1) rfl⟩))
  have HME := Lib.hid (fun W (hb : Below (w.setCell ⟨r, 10, none⟩ (.int .i64 (k : Int))).heap.size (w.setCell ⟨r, 10, none⟩ (.int .i64 (k : Int))) W) => me_any (HR.out.keep hb) HK.out)
  have hk0 : (0 : Int) ≤ (k : Int) := by omega
  have hk0' : ¬ (k : Int) < 0 := by omega
  have hk1 : (k : Int) < (n1 : Int) := by omega
  have hkn : ¬ (n : Int) ≤ (k : Int) := by omega
  have hx0 : (0 : Int) ≤ (x : Int) := by omega
  have hxz : ¬ (n2 : Int) ≤ (x : Int) := by omega
  have HMM := Lib.hid HM
  have HC0 := Lib.hid (fun W (hb : Below (w.setCell ⟨r, 10, none⟩ (.int .i64 (k : Int))).heap.size (w.setCell ⟨r, 10, none⟩ (.int .i64 (k : Int))) W) => (show W.cell? ⟨a.gT, k * 11, none⟩ = some (.int .i64 5) from by have e := (HR.out.keep hb).tcells HK.out (j := 0) rfl; rw [hst] at e; simpa using e))
  have hTl : a.gT < (w.setCell ⟨r, 10, none⟩ (.int .i64 (k : Int))).heap.size := HR.out.apart.2.2.2.1
  clear h hk hpl htxs htx hpw hb1 hm1 hc1 hT1 e1 hn1 hn2 hn hkp hlt hx hst HM
  go_enter Try.func28, Try.ntmps28
  go_wp2_with fail
  refine wp_region_held_drew (S := fun W => W.cell? ⟨r, 4, none⟩ = some (.slice (some ⟨a.gT, 0, none⟩) n a.cT) ∧ W.cell? ⟨r, 9, none⟩ = some (.slice (some ⟨b1, o1, none⟩) n1 c1) ∧ W.cell? ⟨b1, o1 + k, none⟩ = some (.slice A1 n2 d1) ∧ W.cell? ⟨a.gT, k * 11 + 1, none⟩ = some (.int .i64 (x : Int))) (by kernel_rfl) ?_ (fun hHeldjr => ?_)
  · exact HC.out _ (Below.refl _ _).drew
  refine tkW 0 { dst := some 9, op := Op.move (Operand.tmp 1), type := 3, pos := "stm.go:204", after := _, guard := none } (v := ?vjr0) rfl (Or.inl ⟨by rfl, ?hyjr0⟩) ?restjr0
  case hyjr0 => (intro w hSw; (try dsimp only at hSw); go_simp <;> with_reducible rfl)
  try simp only [putW, setZ, setS]
  refine tkW 1 { dst := some 10, op := Op.binOp BinOp.lss 3 (Operand.tmp 9) (Operand.const (Value.int IntKind.i64 0)) 3, type := 4, pos := "stm.go:204", after := _, guard := none } (v := .bool false) rfl (Or.inl ⟨by rfl, ?hyjr1⟩) ?restjr1
  case hyjr1 => (intro w hSw; (try dsimp only at hSw); go_simp <;> first | done | with_reducible rfl | omega | (simp; done) | (simp; omega) | (simp [*]; done) | (simp [*]; omega) | exact decide_eq_false (by omega) | exact decide_eq_true (by omega))
  try simp only [putW, setZ, setS]
  refine tkW 2 { dst := some 11, op := Op.move (Operand.tmp 10), type := 4, pos := "stm.go:204", after := _, guard := none } (v := ?vjr2) rfl (Or.inl ⟨by rfl, ?hyjr2⟩) ?restjr2
  case hyjr2 => (intro w hSw; (try dsimp only at hSw); go_simp <;> with_reducible rfl)
  try simp only [putW, setZ, setS]
  refine tkW 3 { dst := some 12, op := Op.move (Operand.tmp 1), type := 3, pos := "stm.go:204", after := _, guard := some (2, false) } (v := ?vjr3) rfl (Or.inl ⟨by rfl, ?hyjr3⟩) ?restjr3
  case hyjr3 => (intro w hSw; (try dsimp only at hSw); go_simp <;> with_reducible rfl)
  try simp only [putW, setZ, setS]
  refine tkW 4 { dst := some 13, op := Op.move (Operand.tmp 0), type := 68, pos := "stm.go:204", after := _, guard := some (2, false) } (v := ?vjr4) rfl (Or.inl ⟨by rfl, ?hyjr4⟩) ?restjr4
  case hyjr4 => (intro w hSw; (try dsimp only at hSw); go_simp <;> with_reducible rfl)
  try simp only [putW, setZ, setS]
  refine tkW 5 { dst := some 14, op := Op.nilCheck (Operand.tmp 13), type := 0, pos := "stm.go:204", after := _, guard := some (2, false) } (v := ?vjr5) rfl (Or.inl ⟨by rfl, ?hyjr5⟩) ?restjr5
  case hyjr5 => (intro w hSw; (try dsimp only at hSw); go_simp <;> with_reducible rfl)
  try simp only [putW, setZ, setS]
  refine tkW 6 { dst := some 15, op := Op.fieldAddr 70 (Operand.tmp 14) 0, type := 0, pos := "stm.go:204", after := _, guard := some (2, false) } (v := ?vjr6) rfl (Or.inl ⟨by rfl, ?hyjr6⟩) ?restjr6
  case hyjr6 => (intro w hSw; (try dsimp only at hSw); go_simp <;> with_reducible rfl)
  try simp only [putW, setZ, setS]
  refine tkW 7 { dst := some 16, op := Op.fieldAddr 46 (Operand.tmp 15) 2, type := 0, pos := "stm.go:204", after := _, guard := some (2, false) } (v := ?vjr7) rfl (Or.inl ⟨by rfl, ?hyjr7⟩) ?restjr7
  case hyjr7 => (intro w hSw; (try dsimp only at hSw); go_simp <;> with_reducible rfl)
  try simp only [putW, setZ, setS]
  refine tkW 8 { dst := some 17, op := Op.load 44 (Operand.tmp 16), type := 44, pos := "stm.go:204", after := _, guard := some (2, false) } (v := ?vjr8) rfl (Or.inl ⟨by rfl, ?hyjr8⟩) ?restjr8
  case hyjr8 => (intro w hSw; (try dsimp only at hSw); go_simp <;> with_reducible rfl)
  try simp only [putW, setZ, setS]
  refine tkW 9 { dst := some 18, op := Op.call { callee := Callee.builtin Builtin.len, args := #[Operand.tmp 17], argTypes := #[44] }, type := 3, pos := "stm.go:204", after := _, guard := some (2, false) } (v := ?vjr9) rfl (Or.inl ⟨by rfl, ?hyjr9⟩) ?restjr9
  case hyjr9 => (intro w hSw; (try dsimp only at hSw); go_simp <;> with_reducible rfl)
  try simp only [putW, setZ, setS]
  refine tkW 10 { dst := some 19, op := Op.binOp BinOp.geq 3 (Operand.tmp 12) (Operand.tmp 18) 3, type := 4, pos := "stm.go:204", after := _, guard := some (2, false) } (v := .bool false) rfl (Or.inl ⟨by rfl, ?hyjr10⟩) ?restjr10
  case hyjr10 => (intro w hSw; (try dsimp only at hSw); go_simp <;> first | done | with_reducible rfl | omega | (simp; done) | (simp; omega) | (simp [*]; done) | (simp [*]; omega) | exact decide_eq_false (by omega) | exact decide_eq_true (by omega))
  try simp only [putW, setZ, setS]
  refine tkW 11 { dst := some 20, op := Op.pick (Operand.tmp 11) (Operand.const (Value.bool true)) (Operand.tmp 19), type := 4, pos := "stm.go:204", after := _, guard := none } (v := ?vjr11) rfl (Or.inl ⟨by rfl, ?hyjr11⟩) ?restjr11
  case hyjr11 => (intro w hSw; (try dsimp only at hSw); go_simp <;> with_reducible rfl)
  try simp only [putW, setZ, setS]
  refine tkW 12 { dst := some 21, op := Op.move (Operand.tmp 20), type := 4, pos := "stm.go:204", after := _, guard := none } (v := ?vjr12) rfl (Or.inl ⟨by rfl, ?hyjr12⟩) ?restjr12
  case hyjr12 => (intro w hSw; (try dsimp only at hSw); go_simp <;> with_reducible rfl)
  try simp only [putW, setZ, setS]
  refine tkW 13 { dst := some 22, op := Op.move (Operand.tmp 0), type := 68, pos := "stm.go:204", after := _, guard := some (12, false) } (v := ?vjr13) rfl (Or.inl ⟨by rfl, ?hyjr13⟩) ?restjr13
  case hyjr13 => (intro w hSw; (try dsimp only at hSw); go_simp <;> with_reducible rfl)
  try simp only [putW, setZ, setS]
  refine tkW 18 { dst := some 27, op := Op.move (Operand.tmp 0), type := 68, pos := "stm.go:204", after := _, guard := some (12, false) } (v := ?vjr18) rfl (Or.inl ⟨by rfl, ?hyjr18⟩) ?restjr18
  case hyjr18 => (intro w hSw; (try dsimp only at hSw); go_simp <;> with_reducible rfl)
  try simp only [putW, setZ, setS]
  refine tkW 19 { dst := some 28, op := Op.nilCheck (Operand.tmp 27), type := 0, pos := "stm.go:204", after := _, guard := some (12, false) } (v := ?vjr19) rfl (Or.inl ⟨by rfl, ?hyjr19⟩) ?restjr19
  case hyjr19 => (intro w hSw; (try dsimp only at hSw); go_simp <;> with_reducible rfl)
  try simp only [putW, setZ, setS]
  refine tkW 20 { dst := some 29, op := Op.fieldAddr 70 (Operand.tmp 28) 1, type := 0, pos := "stm.go:204", after := _, guard := some (12, false) } (v := ?vjr20) rfl (Or.inl ⟨by rfl, ?hyjr20⟩) ?restjr20
  case hyjr20 => (intro w hSw; (try dsimp only at hSw); go_simp <;> with_reducible rfl)
  try simp only [putW, setZ, setS]
  refine tkW 21 { dst := some 30, op := Op.fieldAddr 39 (Operand.tmp 29) 2, type := 0, pos := "stm.go:204", after := _, guard := some (12, false) } (v := ?vjr21) rfl (Or.inl ⟨by rfl, ?hyjr21⟩) ?restjr21
  case hyjr21 => (intro w hSw; (try dsimp only at hSw); go_simp <;> with_reducible rfl)
  try simp only [putW, setZ, setS]
  refine tkW 22 { dst := some 31, op := Op.load 37 (Operand.tmp 30), type := 37, pos := "stm.go:204", after := _, guard := some (12, false) } (v := ?vjr22) rfl (Or.inl ⟨by rfl, ?hyjr22⟩) ?restjr22
  case hyjr22 => (intro w hSw; (try dsimp only at hSw); go_simp <;> with_reducible rfl)
  try simp only [putW, setZ, setS]
  refine tkW 23 { dst := some 32, op := Op.move (Operand.tmp 1), type := 3, pos := "stm.go:204", after := _, guard := some (12, false) } (v := ?vjr23) rfl (Or.inl ⟨by rfl, ?hyjr23⟩) ?restjr23
  case hyjr23 => (intro w hSw; (try dsimp only at hSw); go_simp <;> with_reducible rfl)
  try simp only [putW, setZ, setS]
  refine tkW 24 { dst := some 33, op := Op.indexAddr 37 (Operand.tmp 31) (Operand.tmp 32), type := 0, pos := "stm.go:204", after := _, guard := some (12, false) } (v := ?vjr24) rfl (Or.inl ⟨by rfl, ?hyjr24⟩) ?restjr24
  case hyjr24 => (intro w hSw; (try dsimp only at hSw); go_simp <;> with_reducible rfl)
  try simp only [putW, setZ, setS]
  refine tkW 25 { dst := some 34, op := Op.load 63 (Operand.tmp 33), type := 63, pos := "stm.go:204", after := _, guard := some (12, false) } (v := ?vjr25) rfl (Or.inl ⟨by rfl, ?hyjr25⟩) ?restjr25
  case hyjr25 => (intro w hSw; (try dsimp only at hSw); go_simp <;> with_reducible rfl)
  try simp only [putW, setZ, setS]
  refine tkW 26 { dst := some 35, op := Op.call { callee := Callee.builtin Builtin.len, args := #[Operand.tmp 34], argTypes := #[63] }, type := 3, pos := "stm.go:204", after := _, guard := some (12, false) } (v := ?vjr26) rfl (Or.inl ⟨by rfl, ?hyjr26⟩) ?restjr26
  case hyjr26 => (intro w hSw; (try dsimp only at hSw); go_simp <;> with_reducible rfl)
  try simp only [putW, setZ, setS]
  refine wpAnyH_ready (rs := [14]) (by kernel_rfl) (by simp) ?_
  refine AllReadyH.cons (o := { dst := some 23, op := Op.call { callee := Callee.value (Operand.func 41), args := #[Operand.tmp 22], argTypes := #[68] }, type := 84, pos := "stm.go:204", after := _, guard := some (12, false) }) rfl (fun K hK => ?_) AllReadyH.nil
  go_simp
  refine (HME.out _ (Below.refl _ _).drew).mono ?_
  rintro e w1 ⟨rfl, hb1'⟩
  have HB1 := Lib.hid ((Below.refl _ _).drew.trans hb1')
  clear hb1'
  try go_wp2_with fail
  refine hK.out _ _ ?_ (fun hHeldjr14 => ?_)
  · exact HC.out _ HB1.out
  clear hK K hHeldjr
  try simp only [Act.put, List.setIfInBounds_toArray, List.set_cons_zero, List.set_cons_succ]
  refine tkW 15 { dst := some 24, op := Op.nilCheck (Operand.tmp 23), type := 0, pos := "stm.go:204", after := _, guard := some (12, false) } (v := ?vjr15) rfl (Or.inl ⟨by rfl, ?hyjr15⟩) ?restjr15
  case hyjr15 => (intro w hSw; (try dsimp only at hSw); go_simp <;> with_reducible rfl)
  try simp only [putW, setZ, setS]
  refine tkW 16 { dst := some 25, op := Op.fieldAddr 52 (Operand.tmp 24) 1, type := 0, pos := "stm.go:204", after := _, guard := some (12, false) } (v := ?vjr16) rfl (Or.inl ⟨by rfl, ?hyjr16⟩) ?restjr16
  case hyjr16 => (intro w hSw; (try dsimp only at hSw); go_simp <;> with_reducible rfl)
  try simp only [putW, setZ, setS]
  refine tkW 17 { dst := some 26, op := Op.load 3 (Operand.tmp 25), type := 3, pos := "stm.go:204", after := _, guard := some (12, false) } (v := ?vjr17) rfl (Or.inl ⟨by rfl, ?hyjr17⟩) ?restjr17
  case hyjr17 => (intro w hSw; (try dsimp only at hSw); go_simp <;> with_reducible rfl)
  try simp only [putW, setZ, setS]
  refine tkW 27 { dst := some 36, op := Op.binOp BinOp.geq 3 (Operand.tmp 26) (Operand.tmp 35) 3, type := 4, pos := "stm.go:204", after := _, guard := some (12, false) } (v := .bool false) rfl (Or.inl ⟨by rfl, ?hyjr27⟩) ?restjr27
  case hyjr27 => (intro w hSw; (try dsimp only at hSw); go_simp <;> first | done | with_reducible rfl | omega | (simp; done) | (simp; omega) | (simp [*]; done) | (simp [*]; omega) | exact decide_eq_false (by omega) | exact decide_eq_true (by omega))
  try simp only [putW, setZ, setS]
  refine tkW 28 { dst := some 37, op := Op.pick (Operand.tmp 21) (Operand.const (Value.bool true)) (Operand.tmp 36), type := 4, pos := "stm.go:204", after := _, guard := none } (v := ?vjr28) rfl (Or.inl ⟨by rfl, ?hyjr28⟩) ?restjr28
  case hyjr28 => (intro w hSw; (try dsimp only at hSw); go_simp <;> with_reducible rfl)
  try simp only [putW, setZ, setS]
  refine wpAnyH_done (by kernel_rfl) ?_ _

  obtain ⟨fs, hfs⟩ : ∃ fs : Array Value, fs = #[.func (.func 42) #[.pointer (some ⟨r, 0, none⟩)] #[], .func (.func 43) #[.pointer (some ⟨r, 0, none⟩)] #[], .func (.func 44) #[.pointer (some ⟨r, 0, none⟩)] #[], .func (.func 45) #[.pointer (some ⟨r, 0, none⟩)] #[], .func (.func 46) #[.pointer (some ⟨r, 0, none⟩)] #[], .func (.func 47) #[.pointer (some ⟨r, 0, none⟩)] #[]] := ⟨_, rfl⟩
  have HF := Lib.hid hfs
  clear hfs
  go_wp2_with (refine wpList_store_new rfl 86 _ _ rfl fs (by rfl) (by rw [HF.out]; rfl) (by rw [HF.out]; rfl) (by rw [HF.out]; exact ways_size) (by rw [HF.out]; simp [Value.oneCell']) ?_; intro w2 hB2 hb2; have HB2 := Lib.hid hB2; have hW2 := HB1.out.trans (hb2.mono HB1.out.size); have HW2 := Lib.hid hW2; clear hB2 hb2 hW2)
  refine (HME.out _ HW2.out).mono ?_
  rintro e w3 ⟨rfl, hb3⟩
  have HB3 := Lib.hid hb3
  have HW3 := Lib.hid (HW2.out.trans (hb3.mono HW2.out.size))
  have q0 := HC0.out _ HW3.out
  have qf : w3.cell? ⟨w1.heap.size, 5, none⟩ = some (.func (.func 47) #[.pointer (some ⟨r, 0, none⟩)] #[]) := by rw [(HB2.out.keep HB3.out).cell, HF.out]; rfl
  have H3 := Lib.hid (HR.out.keep HW3.out)
  have hl1 : w1.heap.size < w3.heap.size := (HB2.out.keep HB3.out).lt
  clear hb3
  go_wp2_with fail
  refine (HMM.out _ _ H3.out rfl).mono ?_
  rintro e w4 ⟨rfl, φ4, a4, m4, h4, e4⟩
  have H4 := Lib.hid h4
  have HE4 := Lib.hid e4
  clear h4 e4
  go_wp2
  go_end0
  exact ⟨rfl, _, _, _, H4.out, HE4.out⟩

theorem step_any {who0 : Int} (h : RunW w0 w r φ a m pw pm pv who0) (who : Int) {pl : List (List (List Ac))} {words : Nat} {mx : Int} (hpl : PlV w0 pv pl) (hp : PlanOk words mx pl) (hg : Good words pl m) (hH : m.H.length ≤ 1000) :
    Calls Try.prog 28 #[.pointer (some ⟨r, 0, none⟩), .int .i64 who] w (StepPost w0 r (stepM pl m who) pw pm pv who) := by
  by_cases h0 : who < 0
  · have e : stepM pl m who = m := by unfold stepM; rw [if_neg (by omega)]
    rw [e]; exact step_neg h who h0
  by_cases h1 : (m.T.length : Int) ≤ who
  · have e : stepM pl m who = m := by
      unfold stepM stepK
      rw [if_pos (by omega), List.getElem?_eq_none (by omega)]
    rw [e]; exact step_out h who (by omega) h1
  obtain ⟨k, rfl⟩ : ∃ k : Nat, who = (k : Int) := ⟨who.toNat, by omega⟩
  have hkT : k < m.T.length := by omega
  have hkp : k < pl.length := by rw [← hg.T]; exact hkT
  obtain ⟨t, hk⟩ : ∃ t, m.T[k]? = some t := ⟨_, List.getElem?_eq_getElem hkT⟩
  obtain ⟨txs, htxs⟩ : ∃ t, pl[k]? = some t := ⟨_, List.getElem?_eq_getElem hkp⟩
  have gt := hg.ts k t txs hk htxs
  have hx0 := gt.x0
  have hx1 := gt.x1
  have hmt : txs ∈ pl := List.mem_of_getElem? htxs
  have htx4 := hp.tx4 txs hmt
  obtain ⟨x, hx⟩ : ∃ x : Nat, t.tx = (x : Int) := ⟨t.tx.toNat, by omega⟩
  have hstep : stepM pl m (k : Int) = if t.tx < txs.length then doM txs m k t else m := by
    unfold stepM stepK
    rw [if_pos (by omega), Int.toNat_natCast, hk, htxs]
  by_cases hlt : txs.length ≤ x
  · have e : stepM pl m (k : Int) = m := by rw [hstep, if_neg (by omega)]
    rw [e]; exact step_idle h hk hpl htxs x hx hlt
  have hxl : x < txs.length := by omega
  have e : stepM pl m (k : Int) = doM txs m k t := by rw [hstep, if_pos (by omega)]
  rw [e]
  have hk4 : k < 4 := by have := hp.p4; omega
  have ehl : txs.getD t.tx.toNat [] = txs[x] := by rw [hx, Int.toNat_natCast]; simp [List.getD, hxl]
  have hl6 : txs[x].length ≤ 6 := hp.ac6 txs hmt _ (List.getElem_mem hxl)
  have c1 := gt.c1
  rw [ehl] at c1
  have c0 := gt.c0
  have rl := gt.rl
  have wl := gt.wl
  have hR : t.R.length ≤ 1000 := by omega
  have hW : t.W.length ≤ 1000 := by omega
  have htx : 0 ≤ t.tx ∧ t.tx ≤ 1000 := ⟨by omega, by omega⟩
  have hmay := hg.may
  have hL8 : m.L.length ≤ 8 := (may_iff.1 hmay).2.2.2.2.1
  have s0 := gt.s0
  have s5 := gt.s5
  have hi0 := gt.i0
  by_cases hs0 : t.st = 0
  · refine step_begin h hk hpl htxs x hx hxl hs0 (fun W a' hW' ha => ?_)
    have ed : doM txs m k t = beginM m k t := by unfold doM; rw [if_pos hs0]
    rw [ed]
    subst ha
    refine (begin_any hW' hk ⟨gt.y0, by have := gt.y3; omega⟩).mono fun e w' he => ?_
    exact ⟨he.1, _, _, _, he.2, rfl⟩
  by_cases hs1 : t.st = 1
  · refine step_work h hk hpl htxs x hx hxl hs1 (fun W a' hW' ha => ?_)
    have ed : doM txs m k t = workM txs[x] m k t := by unfold doM; rw [if_neg hs0, if_pos hs1, ehl]
    rw [ed]
    subst ha
    exact work_any hW' hk hpl htxs x hx (List.getElem?_eq_getElem hxl) (by omega) (by omega) t.pc.toNat (by omega) (by omega) (by rw [hg.W, hg.L]) (fun ac hac => by
      have := hp.acs txs hmt _ (List.getElem_mem hxl) ac (List.mem_of_getElem? hac)
      exact ⟨this.d0, this.d3⟩) hH hR hW
  by_cases hs2 : t.st = 2
  · refine step_hold h hk hpl htxs x hx hxl hs2 (fun W a' hW' ha => ?_)
    have ed : doM txs m k t = holdM m k t := by unfold doM; rw [if_neg hs0, if_neg hs1, if_pos hs2]
    rw [ed]
    subst ha
    have := gt.i2 hs2
    exact hold_any hW' hk hmay hk4 hH hR hW htx t.i.toNat (by omega) (by omega)
  by_cases hs3 : t.st = 3
  · refine step_tick h hk hpl htxs x hx hxl hs3 (fun W a' hW' ha => ?_)
    have ed : doM txs m k t = tickM m k t := by unfold doM; rw [if_neg hs0, if_neg hs1, if_neg hs2, if_pos hs3]
    rw [ed]
    subst ha
    exact tick_any hW' hk hmay hk4 hH hR hW htx
  by_cases hs4 : t.st = 4
  · refine step_check h hk hpl htxs x hx hxl hs4 (fun W a' hW' ha => ?_)
    have ed : doM txs m k t = checkM m k t := by unfold doM; rw [if_neg hs0, if_neg hs1, if_neg hs2, if_neg hs3, if_pos hs4]
    rw [ed]
    subst ha
    have := gt.i4 hs4
    exact check_any hW' hk hmay hk4 hH hR hW htx t.i.toNat (by omega) (by omega)
  have hs5 : t.st = 5 := by omega
  refine step_back h hk hpl htxs x hx hxl hs5 (fun W a' hW' ha => ?_)
  have ed : doM txs m k t = backM m k t := by unfold doM; rw [if_neg hs0, if_neg hs1, if_neg hs2, if_neg hs3, if_neg hs4]
  rw [ed]
  subst ha
  have hi5 := gt.i5 hs5
  have hil : t.i.toNat < t.W.length := by omega
  have hwa := gt.wa _ (List.getElem_mem hil)
  exact back_any hW' hk hL8 htx hW t.i.toNat (by omega) _ (List.getElem?_eq_getElem hil) (t.W[t.i.toNat]).at_.toNat (by omega) (by rw [hg.W]; omega)

end
end Go.Proofs.Ytmcbnpeihedcaaa
