/- step: one of a thread. -/
import Derived.Test.YtngimbfojccikaaStWork
import Derived.Test.YtngimbfojccikaaStKept
namespace Go.Proofs.Ytngimbfojccikaa
set_option linter.unusedSimpArgs false
open Go Go.RowKit
set_option linter.unusedVariables false
set_option maxRecDepth 100000

theorem setCells_blk {g : Nat} {t : TypeId} : ∀ (us : List Value) (o : Nat) (w : World) (cur : Array Value), Blk w g t cur → o + us.length ≤ cur.size → Blk (w.setCells g o us) g t (cur.toList.take o ++ us ++ cur.toList.drop (o + us.length)).toArray
  | [], o, w, cur, h, _ => by simpa [World.setCells] using h
  | u :: us, o, w, cur, h, hs => by
    rw [World.setCells]
    have h1 := setCells_blk us (o + 1) _ _ (h.set_ o u) (by simp at hs ⊢; omega)
    have hol : o < cur.toList.length := by simp at hs ⊢; omega
    have e : (cur.setIfInBounds o u).toList.take (o + 1) ++ us ++ (cur.setIfInBounds o u).toList.drop (o + 1 + us.length) = cur.toList.take o ++ (u :: us) ++ cur.toList.drop (o + (u :: us).length) := by
      rw [Array.toList_setIfInBounds, List.take_succ_eq_append_getElem (by rw [List.length_set]; exact hol), List.getElem_set_self, List.take_set_of_le (by omega), List.drop_set_of_lt (by omega)]
      simp [Nat.add_assoc, Nat.add_comm 1]
    rw [e] at h1
    exact h1
theorem setCells_below {B g : Nat} {w0 : World} (hg : B ≤ g) : ∀ (us : List Value) (o : Nat) (w : World), Below B w0 w → Below B w0 (w.setCells g o us)
  | [], _, _, h => h
  | u :: us, o, w, h => by rw [World.setCells]; exact setCells_below hg us (o + 1) _ (h.setCell hg u)
/-- A whole value stored into a block that was just laid. -/
theorem wpList_store_new {P : Program} {ops : Array Oper} {rest : List Oper} {o : Oper} {a : Act} {Q : Exit → Act → World → Prop} {w1 : World} {zs : Array Value} {t : TypeId} (hgd : o.guard = none) (ty : TypeId) (x y : Operand) (ho : o.op = .store ty x y) (cs : Array Value)
    (hx : a.eval x = .pointer (some ⟨w1.heap.size, 0, none⟩)) (hy : a.eval y = .agg cs) (hz : zs.size = cs.size) (hi : (P.info? ty).map (·.size) = some cs.size) (h1 : cs.all (·.oneCell') = true)
    (kk : ∀ w2, Blk w2 w1.heap.size t cs → Below w1.heap.size w1 w2 → wpList P ops Q rest (a.put o.dst undef) w2) : wpList P ops Q (o :: rest) a (w1.alloc (.cells zs t)) := by
  have hB : Blk (w1.alloc (.cells zs t)) w1.heap.size t zs := Blk.new _ _ _
  refine wpList_store_mid hgd ty x y ho w1.heap.size 0 cs hx hy (fun j hj => ⟨?_, hB.free _⟩) hi h1 (kk _ ?_ (setCells_below (Nat.le_refl _) _ _ _ ((Below.refl _ _).alloc (Nat.le_refl _) _)))
  · rw [hB.cell, Nat.zero_add, Array.getElem?_eq_getElem (by omega)]; rfl
  · have h2 := setCells_blk cs.toList 0 _ _ hB (by simp; omega)
    have e : (zs.toList.take 0 ++ cs.toList ++ zs.toList.drop (0 + cs.toList.length)).toArray = cs := by
      rw [List.take_zero, List.nil_append, List.drop_of_length_le (by simp; omega), List.append_nil]
    rw [e] at h2
    exact h2
theorem ways_size : (Try.prog.info? 78).map (·.size) = some 6 := by kernel_rfl

section
variable {w0 w w' : World} {r : Nat} {φ : Nat → Nat} {a : Ad} {m : Mm} {pw pm : Int} {pv : Value}

/-- What step leaves. -/
def StepPost (w0 : World) (r : Nat) (m' : Mm) (pw pm : Int) (pv : Value) (who : Int) (e : Ending) (w' : World) : Prop :=
  e = .returned (.tuple #[]) ∧ ∃ φ' a' m2, RunW w0 w' r φ' a' m2 pw pm pv who ∧ m2.er = m'.er

theorem RunW.setWho {who0 : Int} (h : RunW w0 w r φ a m pw pm pv who0) (who : Int) : RunW w0 (w.setCell ⟨r, 10, none⟩ (.int .i64 who)) r φ a m pw pm pv who :=
  h.rcell rfl rfl rfl rfl rfl

set_option maxHeartbeats 4000000 in
theorem step_neg {who0 : Int} (h : RunW w0 w r φ a m pw pm pv who0) (who : Int) (h0 : who < 0) :
    Calls Try.prog 24 #[.pointer (some ⟨r, 0, none⟩), .int .i64 who] w (StepPost w0 r m pw pm pv who) := by
  have c10 : w.cell? ⟨r, 10, none⟩ = some (.int .i64 who0) := h.rcells 10
  have f10 := h.run.free 10
  have HR := Lib.hid (h.setWho who)
  clear h
  go_enter Try.func24, Try.ntmps24
  go_wp2_with fail
  refine wp_region_held_drew (S := fun _ => True) (by kernel_rfl) ?_ (fun hHeldbr => ?_)
  · trivial
  refine wpAnyH_take (i := 0) (oi := { dst := some 9, op := Op.move (Operand.tmp 1), type := 3, pos := "stm.go:204", after := _, guard := none }) (v := ?vbr0) rfl (by kernel_rfl) (by kernel_rfl) (by kernel_rfl) (fun _ _ _ h => h) (Or.inl ⟨by rfl, ?hybr0⟩) (by assumption) ?restbr0
  case hybr0 => (intro w hSw; (try dsimp only at hSw); go_simp <;> with_reducible rfl)
  try simp only [Act.put, List.setIfInBounds_toArray, List.set_cons_zero, List.set_cons_succ]
  refine wpAnyH_take (i := 1) (oi := { dst := some 10, op := Op.binOp BinOp.lss 3 (Operand.tmp 9) (Operand.const (Value.int IntKind.i64 0)) 3, type := 4, pos := "stm.go:204", after := _, guard := none }) (v := .bool true) rfl (by kernel_rfl) (by kernel_rfl) (by kernel_rfl) (fun _ _ _ h => h) (Or.inl ⟨by rfl, ?hybr1⟩) (by assumption) ?restbr1
  case hybr1 => (intro w hSw; (try dsimp only at hSw); go_simp <;> first | done | with_reducible rfl | omega | (simp; done) | (simp; omega) | (simp [*]; done) | (simp [*]; omega) | exact decide_eq_false (by omega) | exact decide_eq_true (by omega))
  try simp only [Act.put, List.setIfInBounds_toArray, List.set_cons_zero, List.set_cons_succ]
  refine wpAnyH_take (i := 2) (oi := { dst := some 11, op := Op.move (Operand.tmp 10), type := 4, pos := "stm.go:204", after := _, guard := none }) (v := ?vbr2) rfl (by kernel_rfl) (by kernel_rfl) (by kernel_rfl) (fun _ _ _ h => h) (Or.inl ⟨by rfl, ?hybr2⟩) (by assumption) ?restbr2
  case hybr2 => (intro w hSw; (try dsimp only at hSw); go_simp <;> with_reducible rfl)
  try simp only [Act.put, List.setIfInBounds_toArray, List.set_cons_zero, List.set_cons_succ]
  refine wpAnyH_take (i := 3) (oi := { dst := some 12, op := Op.move (Operand.tmp 1), type := 3, pos := "stm.go:204", after := _, guard := some (2, false) }) rfl (by kernel_rfl) (by kernel_rfl) (by kernel_rfl) (fun _ _ _ h => h) (Or.inr ⟨by rfl, rfl⟩) (by assumption) ?_
  try simp only [Act.put, List.setIfInBounds_toArray, List.set_cons_zero, List.set_cons_succ]
  refine wpAnyH_take (i := 4) (oi := { dst := some 13, op := Op.move (Operand.tmp 0), type := 58, pos := "stm.go:204", after := _, guard := some (2, false) }) rfl (by kernel_rfl) (by kernel_rfl) (by kernel_rfl) (fun _ _ _ h => h) (Or.inr ⟨by rfl, rfl⟩) (by assumption) ?_
  try simp only [Act.put, List.setIfInBounds_toArray, List.set_cons_zero, List.set_cons_succ]
  refine wpAnyH_take (i := 5) (oi := { dst := some 14, op := Op.nilCheck (Operand.tmp 13), type := 0, pos := "stm.go:204", after := _, guard := some (2, false) }) rfl (by kernel_rfl) (by kernel_rfl) (by kernel_rfl) (fun _ _ _ h => h) (Or.inr ⟨by rfl, rfl⟩) (by assumption) ?_
  try simp only [Act.put, List.setIfInBounds_toArray, List.set_cons_zero, List.set_cons_succ]
  refine wpAnyH_take (i := 6) (oi := { dst := some 15, op := Op.fieldAddr 60 (Operand.tmp 14) 0, type := 0, pos := "stm.go:204", after := _, guard := some (2, false) }) rfl (by kernel_rfl) (by kernel_rfl) (by kernel_rfl) (fun _ _ _ h => h) (Or.inr ⟨by rfl, rfl⟩) (by assumption) ?_
  try simp only [Act.put, List.setIfInBounds_toArray, List.set_cons_zero, List.set_cons_succ]
  refine wpAnyH_take (i := 7) (oi := { dst := some 16, op := Op.fieldAddr 34 (Operand.tmp 15) 2, type := 0, pos := "stm.go:204", after := _, guard := some (2, false) }) rfl (by kernel_rfl) (by kernel_rfl) (by kernel_rfl) (fun _ _ _ h => h) (Or.inr ⟨by rfl, rfl⟩) (by assumption) ?_
  try simp only [Act.put, List.setIfInBounds_toArray, List.set_cons_zero, List.set_cons_succ]
  refine wpAnyH_take (i := 8) (oi := { dst := some 17, op := Op.load 31 (Operand.tmp 16), type := 31, pos := "stm.go:204", after := _, guard := some (2, false) }) rfl (by kernel_rfl) (by kernel_rfl) (by kernel_rfl) (fun _ _ _ h => h) (Or.inr ⟨by rfl, rfl⟩) (by assumption) ?_
  try simp only [Act.put, List.setIfInBounds_toArray, List.set_cons_zero, List.set_cons_succ]
  refine wpAnyH_take (i := 9) (oi := { dst := some 18, op := Op.call { callee := Callee.builtin Builtin.len, args := #[Operand.tmp 17], argTypes := #[31] }, type := 3, pos := "stm.go:204", after := _, guard := some (2, false) }) rfl (by kernel_rfl) (by kernel_rfl) (by kernel_rfl) (fun _ _ _ h => h) (Or.inr ⟨by rfl, rfl⟩) (by assumption) ?_
  try simp only [Act.put, List.setIfInBounds_toArray, List.set_cons_zero, List.set_cons_succ]
  refine wpAnyH_take (i := 10) (oi := { dst := some 19, op := Op.binOp BinOp.geq 3 (Operand.tmp 12) (Operand.tmp 18) 3, type := 4, pos := "stm.go:204", after := _, guard := some (2, false) }) rfl (by kernel_rfl) (by kernel_rfl) (by kernel_rfl) (fun _ _ _ h => h) (Or.inr ⟨by rfl, rfl⟩) (by assumption) ?_
  try simp only [Act.put, List.setIfInBounds_toArray, List.set_cons_zero, List.set_cons_succ]
  refine wpAnyH_take (i := 11) (oi := { dst := some 20, op := Op.pick (Operand.tmp 11) (Operand.const (Value.bool true)) (Operand.tmp 19), type := 4, pos := "stm.go:204", after := _, guard := none }) (v := ?vbr11) rfl (by kernel_rfl) (by kernel_rfl) (by kernel_rfl) (fun _ _ _ h => h) (Or.inl ⟨by rfl, ?hybr11⟩) (by assumption) ?restbr11
  case hybr11 => (intro w hSw; (try dsimp only at hSw); go_simp <;> with_reducible rfl)
  try simp only [Act.put, List.setIfInBounds_toArray, List.set_cons_zero, List.set_cons_succ]
  refine wpAnyH_take (i := 12) (oi := { dst := some 21, op := Op.move (Operand.tmp 20), type := 4, pos := "stm.go:204", after := _, guard := none }) (v := ?vbr12) rfl (by kernel_rfl) (by kernel_rfl) (by kernel_rfl) (fun _ _ _ h => h) (Or.inl ⟨by rfl, ?hybr12⟩) (by assumption) ?restbr12
  case hybr12 => (intro w hSw; (try dsimp only at hSw); go_simp <;> with_reducible rfl)
  try simp only [Act.put, List.setIfInBounds_toArray, List.set_cons_zero, List.set_cons_succ]
  refine wpAnyH_take (i := 13) (oi := { dst := some 22, op := Op.move (Operand.tmp 0), type := 58, pos := "stm.go:204", after := _, guard := some (12, false) }) rfl (by kernel_rfl) (by kernel_rfl) (by kernel_rfl) (fun _ _ _ h => h) (Or.inr ⟨by rfl, rfl⟩) (by assumption) ?_
  try simp only [Act.put, List.setIfInBounds_toArray, List.set_cons_zero, List.set_cons_succ]
  refine wpAnyH_take (i := 14) (oi := { dst := some 23, op := Op.call { callee := Callee.value (Operand.func 43), args := #[Operand.tmp 22], argTypes := #[58] }, type := 76, pos := "stm.go:204", after := _, guard := some (12, false) }) rfl (by kernel_rfl) (by kernel_rfl) (by kernel_rfl) (fun _ _ _ h => h) (Or.inr ⟨by rfl, rfl⟩) (by assumption) ?_
  try simp only [Act.put, List.setIfInBounds_toArray, List.set_cons_zero, List.set_cons_succ]
  refine wpAnyH_take (i := 15) (oi := { dst := some 24, op := Op.nilCheck (Operand.tmp 23), type := 0, pos := "stm.go:204", after := _, guard := some (12, false) }) rfl (by kernel_rfl) (by kernel_rfl) (by kernel_rfl) (fun _ _ _ h => h) (Or.inr ⟨by rfl, rfl⟩) (by assumption) ?_
  try simp only [Act.put, List.setIfInBounds_toArray, List.set_cons_zero, List.set_cons_succ]
  refine wpAnyH_take (i := 16) (oi := { dst := some 25, op := Op.fieldAddr 46 (Operand.tmp 24) 1, type := 0, pos := "stm.go:204", after := _, guard := some (12, false) }) rfl (by kernel_rfl) (by kernel_rfl) (by kernel_rfl) (fun _ _ _ h => h) (Or.inr ⟨by rfl, rfl⟩) (by assumption) ?_
  try simp only [Act.put, List.setIfInBounds_toArray, List.set_cons_zero, List.set_cons_succ]
  refine wpAnyH_take (i := 17) (oi := { dst := some 26, op := Op.load 3 (Operand.tmp 25), type := 3, pos := "stm.go:204", after := _, guard := some (12, false) }) rfl (by kernel_rfl) (by kernel_rfl) (by kernel_rfl) (fun _ _ _ h => h) (Or.inr ⟨by rfl, rfl⟩) (by assumption) ?_
  try simp only [Act.put, List.setIfInBounds_toArray, List.set_cons_zero, List.set_cons_succ]
  refine wpAnyH_take (i := 18) (oi := { dst := some 27, op := Op.move (Operand.tmp 0), type := 58, pos := "stm.go:204", after := _, guard := some (12, false) }) rfl (by kernel_rfl) (by kernel_rfl) (by kernel_rfl) (fun _ _ _ h => h) (Or.inr ⟨by rfl, rfl⟩) (by assumption) ?_
  try simp only [Act.put, List.setIfInBounds_toArray, List.set_cons_zero, List.set_cons_succ]
  refine wpAnyH_take (i := 19) (oi := { dst := some 28, op := Op.nilCheck (Operand.tmp 27), type := 0, pos := "stm.go:204", after := _, guard := some (12, false) }) rfl (by kernel_rfl) (by kernel_rfl) (by kernel_rfl) (fun _ _ _ h => h) (Or.inr ⟨by rfl, rfl⟩) (by assumption) ?_
  try simp only [Act.put, List.setIfInBounds_toArray, List.set_cons_zero, List.set_cons_succ]
  refine wpAnyH_take (i := 20) (oi := { dst := some 29, op := Op.fieldAddr 60 (Operand.tmp 28) 1, type := 0, pos := "stm.go:204", after := _, guard := some (12, false) }) rfl (by kernel_rfl) (by kernel_rfl) (by kernel_rfl) (fun _ _ _ h => h) (Or.inr ⟨by rfl, rfl⟩) (by assumption) ?_
  try simp only [Act.put, List.setIfInBounds_toArray, List.set_cons_zero, List.set_cons_succ]
  refine wpAnyH_take (i := 21) (oi := { dst := some 30, op := Op.fieldAddr 24 (Operand.tmp 29) 2, type := 0, pos := "stm.go:204", after := _, guard := some (12, false) }) rfl (by kernel_rfl) (by kernel_rfl) (by kernel_rfl) (fun _ _ _ h => h) (Or.inr ⟨by rfl, rfl⟩) (by assumption) ?_
  try simp only [Act.put, List.setIfInBounds_toArray, List.set_cons_zero, List.set_cons_succ]
  refine wpAnyH_take (i := 22) (oi := { dst := some 31, op := Op.load 22 (Operand.tmp 30), type := 22, pos := "stm.go:204", after := _, guard := some (12, false) }) rfl (by kernel_rfl) (by kernel_rfl) (by kernel_rfl) (fun _ _ _ h => h) (Or.inr ⟨by rfl, rfl⟩) (by assumption) ?_
  try simp only [Act.put, List.setIfInBounds_toArray, List.set_cons_zero, List.set_cons_succ]
  refine wpAnyH_take (i := 23) (oi := { dst := some 32, op := Op.move (Operand.tmp 1), type := 3, pos := "stm.go:204", after := _, guard := some (12, false) }) rfl (by kernel_rfl) (by kernel_rfl) (by kernel_rfl) (fun _ _ _ h => h) (Or.inr ⟨by rfl, rfl⟩) (by assumption) ?_
  try simp only [Act.put, List.setIfInBounds_toArray, List.set_cons_zero, List.set_cons_succ]
  refine wpAnyH_take (i := 24) (oi := { dst := some 33, op := Op.indexAddr 22 (Operand.tmp 31) (Operand.tmp 32), type := 0, pos := "stm.go:204", after := _, guard := some (12, false) }) rfl (by kernel_rfl) (by kernel_rfl) (by kernel_rfl) (fun _ _ _ h => h) (Or.inr ⟨by rfl, rfl⟩) (by assumption) ?_
  try simp only [Act.put, List.setIfInBounds_toArray, List.set_cons_zero, List.set_cons_succ]
  refine wpAnyH_take (i := 25) (oi := { dst := some 34, op := Op.load 47 (Operand.tmp 33), type := 47, pos := "stm.go:204", after := _, guard := some (12, false) }) rfl (by kernel_rfl) (by kernel_rfl) (by kernel_rfl) (fun _ _ _ h => h) (Or.inr ⟨by rfl, rfl⟩) (by assumption) ?_
  try simp only [Act.put, List.setIfInBounds_toArray, List.set_cons_zero, List.set_cons_succ]
  refine wpAnyH_take (i := 26) (oi := { dst := some 35, op := Op.call { callee := Callee.builtin Builtin.len, args := #[Operand.tmp 34], argTypes := #[47] }, type := 3, pos := "stm.go:204", after := _, guard := some (12, false) }) rfl (by kernel_rfl) (by kernel_rfl) (by kernel_rfl) (fun _ _ _ h => h) (Or.inr ⟨by rfl, rfl⟩) (by assumption) ?_
  try simp only [Act.put, List.setIfInBounds_toArray, List.set_cons_zero, List.set_cons_succ]
  refine wpAnyH_take (i := 27) (oi := { dst := some 36, op := Op.binOp BinOp.geq 3 (Operand.tmp 26) (Operand.tmp 35) 3, type := 4, pos := "stm.go:204", after := _, guard := some (12, false) }) rfl (by kernel_rfl) (by kernel_rfl) (by kernel_rfl) (fun _ _ _ h => h) (Or.inr ⟨by rfl, rfl⟩) (by assumption) ?_
  try simp only [Act.put, List.setIfInBounds_toArray, List.set_cons_zero, List.set_cons_succ]
  refine wpAnyH_take (i := 28) (oi := { dst := some 37, op := Op.pick (Operand.tmp 21) (Operand.const (Value.bool true)) (Operand.tmp 36), type := 4, pos := "stm.go:204", after := _, guard := none }) (v := ?vbr28) rfl (by kernel_rfl) (by kernel_rfl) (by kernel_rfl) (fun _ _ _ h => h) (Or.inl ⟨by rfl, ?hybr28⟩) (by assumption) ?restbr28
  case hybr28 => (intro w hSw; (try dsimp only at hSw); go_simp <;> with_reducible rfl)
  try simp only [Act.put, List.setIfInBounds_toArray, List.set_cons_zero, List.set_cons_succ]
  refine wpAnyH_done (by kernel_rfl) ?_ _
  go_wp2
  refine bodyPost_ret (results_none rfl _ _ _) rfl ?_
  exact ⟨rfl, _, _, _, HR.out.keep (Below.refl _ _).drew, rfl⟩

set_option maxHeartbeats 4000000 in
theorem step_out {who0 : Int} (h : RunW w0 w r φ a m pw pm pv who0) (who : Int) (h0 : 0 ≤ who) (h1 : (m.T.length : Int) ≤ who) :
    Calls Try.prog 24 #[.pointer (some ⟨r, 0, none⟩), .int .i64 who] w (StepPost w0 r m pw pm pv who) := by
  have c10 : w.cell? ⟨r, 10, none⟩ = some (.int .i64 who0) := h.rcells 10
  have c4 : w.cell? ⟨r, 4, none⟩ = some (.slice (some ⟨a.gT, 0, none⟩) m.T.length a.cT) := h.rcells 4
  have f10 := h.run.free 10
  have HR := Lib.hid (h.setWho who)
  have h0' : ¬ who < 0 := by omega
  clear h
  generalize m.T.length = n at *
  go_enter Try.func24, Try.ntmps24
  go_wp2_with fail
  refine wp_region_held_drew (S := fun W => W.cell? ⟨r, 4, none⟩ = some (.slice (some ⟨a.gT, 0, none⟩) n a.cT)) (by kernel_rfl) ?_ (fun hHeldcr => ?_)
  · go_simp
  refine wpAnyH_take (i := 0) (oi := { dst := some 9, op := Op.move (Operand.tmp 1), type := 3, pos := "stm.go:204", after := _, guard := none }) (v := ?vcr0) rfl (by kernel_rfl) (by kernel_rfl) (by kernel_rfl) (fun _ _ _ h => h) (Or.inl ⟨by rfl, ?hycr0⟩) (by assumption) ?restcr0
  case hycr0 => (intro w hSw; (try dsimp only at hSw); go_simp <;> with_reducible rfl)
  try simp only [Act.put, List.setIfInBounds_toArray, List.set_cons_zero, List.set_cons_succ]
  refine wpAnyH_take (i := 1) (oi := { dst := some 10, op := Op.binOp BinOp.lss 3 (Operand.tmp 9) (Operand.const (Value.int IntKind.i64 0)) 3, type := 4, pos := "stm.go:204", after := _, guard := none }) (v := .bool false) rfl (by kernel_rfl) (by kernel_rfl) (by kernel_rfl) (fun _ _ _ h => h) (Or.inl ⟨by rfl, ?hycr1⟩) (by assumption) ?restcr1
  case hycr1 => (intro w hSw; (try dsimp only at hSw); go_simp <;> first | done | with_reducible rfl | omega | (simp; done) | (simp; omega) | (simp [*]; done) | (simp [*]; omega) | exact decide_eq_false (by omega) | exact decide_eq_true (by omega))
  try simp only [Act.put, List.setIfInBounds_toArray, List.set_cons_zero, List.set_cons_succ]
  refine wpAnyH_take (i := 2) (oi := { dst := some 11, op := Op.move (Operand.tmp 10), type := 4, pos := "stm.go:204", after := _, guard := none }) (v := ?vcr2) rfl (by kernel_rfl) (by kernel_rfl) (by kernel_rfl) (fun _ _ _ h => h) (Or.inl ⟨by rfl, ?hycr2⟩) (by assumption) ?restcr2
  case hycr2 => (intro w hSw; (try dsimp only at hSw); go_simp <;> with_reducible rfl)
  try simp only [Act.put, List.setIfInBounds_toArray, List.set_cons_zero, List.set_cons_succ]
  refine wpAnyH_take (i := 3) (oi := { dst := some 12, op := Op.move (Operand.tmp 1), type := 3, pos := "stm.go:204", after := _, guard := some (2, false) }) (v := ?vcr3) rfl (by kernel_rfl) (by kernel_rfl) (by kernel_rfl) (fun _ _ _ h => h) (Or.inl ⟨by rfl, ?hycr3⟩) (by assumption) ?restcr3
  case hycr3 => (intro w hSw; (try dsimp only at hSw); go_simp <;> with_reducible rfl)
  try simp only [Act.put, List.setIfInBounds_toArray, List.set_cons_zero, List.set_cons_succ]
  refine wpAnyH_take (i := 4) (oi := { dst := some 13, op := Op.move (Operand.tmp 0), type := 58, pos := "stm.go:204", after := _, guard := some (2, false) }) (v := ?vcr4) rfl (by kernel_rfl) (by kernel_rfl) (by kernel_rfl) (fun _ _ _ h => h) (Or.inl ⟨by rfl, ?hycr4⟩) (by assumption) ?restcr4
  case hycr4 => (intro w hSw; (try dsimp only at hSw); go_simp <;> with_reducible rfl)
  try simp only [Act.put, List.setIfInBounds_toArray, List.set_cons_zero, List.set_cons_succ]
  refine wpAnyH_take (i := 5) (oi := { dst := some 14, op := Op.nilCheck (Operand.tmp 13), type := 0, pos := "stm.go:204", after := _, guard := some (2, false) }) (v := ?vcr5) rfl (by kernel_rfl) (by kernel_rfl) (by kernel_rfl) (fun _ _ _ h => h) (Or.inl ⟨by rfl, ?hycr5⟩) (by assumption) ?restcr5
  case hycr5 => (intro w hSw; (try dsimp only at hSw); go_simp <;> with_reducible rfl)
  try simp only [Act.put, List.setIfInBounds_toArray, List.set_cons_zero, List.set_cons_succ]
  refine wpAnyH_take (i := 6) (oi := { dst := some 15, op := Op.fieldAddr 60 (Operand.tmp 14) 0, type := 0, pos := "stm.go:204", after := _, guard := some (2, false) }) (v := ?vcr6) rfl (by kernel_rfl) (by kernel_rfl) (by kernel_rfl) (fun _ _ _ h => h) (Or.inl ⟨by rfl, ?hycr6⟩) (by assumption) ?restcr6
  case hycr6 => (intro w hSw; (try dsimp only at hSw); go_simp <;> with_reducible rfl)
  try simp only [Act.put, List.setIfInBounds_toArray, List.set_cons_zero, List.set_cons_succ]
  refine wpAnyH_take (i := 7) (oi := { dst := some 16, op := Op.fieldAddr 34 (Operand.tmp 15) 2, type := 0, pos := "stm.go:204", after := _, guard := some (2, false) }) (v := ?vcr7) rfl (by kernel_rfl) (by kernel_rfl) (by kernel_rfl) (fun _ _ _ h => h) (Or.inl ⟨by rfl, ?hycr7⟩) (by assumption) ?restcr7
  case hycr7 => (intro w hSw; (try dsimp only at hSw); go_simp <;> with_reducible rfl)
  try simp only [Act.put, List.setIfInBounds_toArray, List.set_cons_zero, List.set_cons_succ]
  refine wpAnyH_take (i := 8) (oi := { dst := some 17, op := Op.load 31 (Operand.tmp 16), type := 31, pos := "stm.go:204", after := _, guard := some (2, false) }) (v := ?vcr8) rfl (by kernel_rfl) (by kernel_rfl) (by kernel_rfl) (fun _ _ _ h => h) (Or.inl ⟨by rfl, ?hycr8⟩) (by assumption) ?restcr8
  case hycr8 => (intro w hSw; (try dsimp only at hSw); go_simp <;> with_reducible rfl)
  try simp only [Act.put, List.setIfInBounds_toArray, List.set_cons_zero, List.set_cons_succ]
  refine wpAnyH_take (i := 9) (oi := { dst := some 18, op := Op.call { callee := Callee.builtin Builtin.len, args := #[Operand.tmp 17], argTypes := #[31] }, type := 3, pos := "stm.go:204", after := _, guard := some (2, false) }) (v := ?vcr9) rfl (by kernel_rfl) (by kernel_rfl) (by kernel_rfl) (fun _ _ _ h => h) (Or.inl ⟨by rfl, ?hycr9⟩) (by assumption) ?restcr9
  case hycr9 => (intro w hSw; (try dsimp only at hSw); go_simp <;> with_reducible rfl)
  try simp only [Act.put, List.setIfInBounds_toArray, List.set_cons_zero, List.set_cons_succ]
  refine wpAnyH_take (i := 10) (oi := { dst := some 19, op := Op.binOp BinOp.geq 3 (Operand.tmp 12) (Operand.tmp 18) 3, type := 4, pos := "stm.go:204", after := _, guard := some (2, false) }) (v := .bool true) rfl (by kernel_rfl) (by kernel_rfl) (by kernel_rfl) (fun _ _ _ h => h) (Or.inl ⟨by rfl, ?hycr10⟩) (by assumption) ?restcr10
  case hycr10 => (intro w hSw; (try dsimp only at hSw); go_simp <;> first | done | with_reducible rfl | omega | (simp; done) | (simp; omega) | (simp [*]; done) | (simp [*]; omega) | exact decide_eq_false (by omega) | exact decide_eq_true (by omega))
  try simp only [Act.put, List.setIfInBounds_toArray, List.set_cons_zero, List.set_cons_succ]
  refine wpAnyH_take (i := 11) (oi := { dst := some 20, op := Op.pick (Operand.tmp 11) (Operand.const (Value.bool true)) (Operand.tmp 19), type := 4, pos := "stm.go:204", after := _, guard := none }) (v := ?vcr11) rfl (by kernel_rfl) (by kernel_rfl) (by kernel_rfl) (fun _ _ _ h => h) (Or.inl ⟨by rfl, ?hycr11⟩) (by assumption) ?restcr11
  case hycr11 => (intro w hSw; (try dsimp only at hSw); go_simp <;> with_reducible rfl)
  try simp only [Act.put, List.setIfInBounds_toArray, List.set_cons_zero, List.set_cons_succ]
  refine wpAnyH_take (i := 12) (oi := { dst := some 21, op := Op.move (Operand.tmp 20), type := 4, pos := "stm.go:204", after := _, guard := none }) (v := ?vcr12) rfl (by kernel_rfl) (by kernel_rfl) (by kernel_rfl) (fun _ _ _ h => h) (Or.inl ⟨by rfl, ?hycr12⟩) (by assumption) ?restcr12
  case hycr12 => (intro w hSw; (try dsimp only at hSw); go_simp <;> with_reducible rfl)
  try simp only [Act.put, List.setIfInBounds_toArray, List.set_cons_zero, List.set_cons_succ]
  refine wpAnyH_take (i := 13) (oi := { dst := some 22, op := Op.move (Operand.tmp 0), type := 58, pos := "stm.go:204", after := _, guard := some (12, false) }) rfl (by kernel_rfl) (by kernel_rfl) (by kernel_rfl) (fun _ _ _ h => h) (Or.inr ⟨by rfl, rfl⟩) (by assumption) ?_
  try simp only [Act.put, List.setIfInBounds_toArray, List.set_cons_zero, List.set_cons_succ]
  refine wpAnyH_take (i := 14) (oi := { dst := some 23, op := Op.call { callee := Callee.value (Operand.func 43), args := #[Operand.tmp 22], argTypes := #[58] }, type := 76, pos := "stm.go:204", after := _, guard := some (12, false) }) rfl (by kernel_rfl) (by kernel_rfl) (by kernel_rfl) (fun _ _ _ h => h) (Or.inr ⟨by rfl, rfl⟩) (by assumption) ?_
  try simp only [Act.put, List.setIfInBounds_toArray, List.set_cons_zero, List.set_cons_succ]
  refine wpAnyH_take (i := 15) (oi := { dst := some 24, op := Op.nilCheck (Operand.tmp 23), type := 0, pos := "stm.go:204", after := _, guard := some (12, false) }) rfl (by kernel_rfl) (by kernel_rfl) (by kernel_rfl) (fun _ _ _ h => h) (Or.inr ⟨by rfl, rfl⟩) (by assumption) ?_
  try simp only [Act.put, List.setIfInBounds_toArray, List.set_cons_zero, List.set_cons_succ]
  refine wpAnyH_take (i := 16) (oi := { dst := some 25, op := Op.fieldAddr 46 (Operand.tmp 24) 1, type := 0, pos := "stm.go:204", after := _, guard := some (12, false) }) rfl (by kernel_rfl) (by kernel_rfl) (by kernel_rfl) (fun _ _ _ h => h) (Or.inr ⟨by rfl, rfl⟩) (by assumption) ?_
  try simp only [Act.put, List.setIfInBounds_toArray, List.set_cons_zero, List.set_cons_succ]
  refine wpAnyH_take (i := 17) (oi := { dst := some 26, op := Op.load 3 (Operand.tmp 25), type := 3, pos := "stm.go:204", after := _, guard := some (12, false) }) rfl (by kernel_rfl) (by kernel_rfl) (by kernel_rfl) (fun _ _ _ h => h) (Or.inr ⟨by rfl, rfl⟩) (by assumption) ?_
  try simp only [Act.put, List.setIfInBounds_toArray, List.set_cons_zero, List.set_cons_succ]
  refine wpAnyH_take (i := 18) (oi := { dst := some 27, op := Op.move (Operand.tmp 0), type := 58, pos := "stm.go:204", after := _, guard := some (12, false) }) rfl (by kernel_rfl) (by kernel_rfl) (by kernel_rfl) (fun _ _ _ h => h) (Or.inr ⟨by rfl, rfl⟩) (by assumption) ?_
  try simp only [Act.put, List.setIfInBounds_toArray, List.set_cons_zero, List.set_cons_succ]
  refine wpAnyH_take (i := 19) (oi := { dst := some 28, op := Op.nilCheck (Operand.tmp 27), type := 0, pos := "stm.go:204", after := _, guard := some (12, false) }) rfl (by kernel_rfl) (by kernel_rfl) (by kernel_rfl) (fun _ _ _ h => h) (Or.inr ⟨by rfl, rfl⟩) (by assumption) ?_
  try simp only [Act.put, List.setIfInBounds_toArray, List.set_cons_zero, List.set_cons_succ]
  refine wpAnyH_take (i := 20) (oi := { dst := some 29, op := Op.fieldAddr 60 (Operand.tmp 28) 1, type := 0, pos := "stm.go:204", after := _, guard := some (12, false) }) rfl (by kernel_rfl) (by kernel_rfl) (by kernel_rfl) (fun _ _ _ h => h) (Or.inr ⟨by rfl, rfl⟩) (by assumption) ?_
  try simp only [Act.put, List.setIfInBounds_toArray, List.set_cons_zero, List.set_cons_succ]
  refine wpAnyH_take (i := 21) (oi := { dst := some 30, op := Op.fieldAddr 24 (Operand.tmp 29) 2, type := 0, pos := "stm.go:204", after := _, guard := some (12, false) }) rfl (by kernel_rfl) (by kernel_rfl) (by kernel_rfl) (fun _ _ _ h => h) (Or.inr ⟨by rfl, rfl⟩) (by assumption) ?_
  try simp only [Act.put, List.setIfInBounds_toArray, List.set_cons_zero, List.set_cons_succ]
  refine wpAnyH_take (i := 22) (oi := { dst := some 31, op := Op.load 22 (Operand.tmp 30), type := 22, pos := "stm.go:204", after := _, guard := some (12, false) }) rfl (by kernel_rfl) (by kernel_rfl) (by kernel_rfl) (fun _ _ _ h => h) (Or.inr ⟨by rfl, rfl⟩) (by assumption) ?_
  try simp only [Act.put, List.setIfInBounds_toArray, List.set_cons_zero, List.set_cons_succ]
  refine wpAnyH_take (i := 23) (oi := { dst := some 32, op := Op.move (Operand.tmp 1), type := 3, pos := "stm.go:204", after := _, guard := some (12, false) }) rfl (by kernel_rfl) (by kernel_rfl) (by kernel_rfl) (fun _ _ _ h => h) (Or.inr ⟨by rfl, rfl⟩) (by assumption) ?_
  try simp only [Act.put, List.setIfInBounds_toArray, List.set_cons_zero, List.set_cons_succ]
  refine wpAnyH_take (i := 24) (oi := { dst := some 33, op := Op.indexAddr 22 (Operand.tmp 31) (Operand.tmp 32), type := 0, pos := "stm.go:204", after := _, guard := some (12, false) }) rfl (by kernel_rfl) (by kernel_rfl) (by kernel_rfl) (fun _ _ _ h => h) (Or.inr ⟨by rfl, rfl⟩) (by assumption) ?_
  try simp only [Act.put, List.setIfInBounds_toArray, List.set_cons_zero, List.set_cons_succ]
  refine wpAnyH_take (i := 25) (oi := { dst := some 34, op := Op.load 47 (Operand.tmp 33), type := 47, pos := "stm.go:204", after := _, guard := some (12, false) }) rfl (by kernel_rfl) (by kernel_rfl) (by kernel_rfl) (fun _ _ _ h => h) (Or.inr ⟨by rfl, rfl⟩) (by assumption) ?_
  try simp only [Act.put, List.setIfInBounds_toArray, List.set_cons_zero, List.set_cons_succ]
  refine wpAnyH_take (i := 26) (oi := { dst := some 35, op := Op.call { callee := Callee.builtin Builtin.len, args := #[Operand.tmp 34], argTypes := #[47] }, type := 3, pos := "stm.go:204", after := _, guard := some (12, false) }) rfl (by kernel_rfl) (by kernel_rfl) (by kernel_rfl) (fun _ _ _ h => h) (Or.inr ⟨by rfl, rfl⟩) (by assumption) ?_
  try simp only [Act.put, List.setIfInBounds_toArray, List.set_cons_zero, List.set_cons_succ]
  refine wpAnyH_take (i := 27) (oi := { dst := some 36, op := Op.binOp BinOp.geq 3 (Operand.tmp 26) (Operand.tmp 35) 3, type := 4, pos := "stm.go:204", after := _, guard := some (12, false) }) rfl (by kernel_rfl) (by kernel_rfl) (by kernel_rfl) (fun _ _ _ h => h) (Or.inr ⟨by rfl, rfl⟩) (by assumption) ?_
  try simp only [Act.put, List.setIfInBounds_toArray, List.set_cons_zero, List.set_cons_succ]
  refine wpAnyH_take (i := 28) (oi := { dst := some 37, op := Op.pick (Operand.tmp 21) (Operand.const (Value.bool true)) (Operand.tmp 36), type := 4, pos := "stm.go:204", after := _, guard := none }) (v := ?vcr28) rfl (by kernel_rfl) (by kernel_rfl) (by kernel_rfl) (fun _ _ _ h => h) (Or.inl ⟨by rfl, ?hycr28⟩) (by assumption) ?restcr28
  case hycr28 => (intro w hSw; (try dsimp only at hSw); go_simp <;> with_reducible rfl)
  try simp only [Act.put, List.setIfInBounds_toArray, List.set_cons_zero, List.set_cons_succ]
  refine wpAnyH_done (by kernel_rfl) ?_ _
  go_wp2
  refine bodyPost_ret (results_none rfl _ _ _) rfl ?_
  exact ⟨rfl, _, _, _, HR.out.keep (Below.refl _ _).drew, rfl⟩

set_option maxHeartbeats 4000000 in
theorem step_idle {who0 : Int} (h : RunW w0 w r φ a m pw pm pv who0) {k : Nat} {t : Tx} (hk : m.T[k]? = some t) {pl : List (List (List Ac))} (hpl : PlV w0 pv pl) {txs : List (List Ac)} (htxs : pl[k]? = some txs) (x : Nat) (htx : t.tx = (x : Int)) (hx : txs.length ≤ x) :
    Calls Try.prog 24 #[.pointer (some ⟨r, 0, none⟩), .int .i64 (k : Int)] w (StepPost w0 r m pw pm pv (k : Int)) := by
  have hpw := hpl.below (h.setWho (k : Int)).base
  obtain ⟨b1, o1, c1, A1, d1, e1, hb1, hm1, hc1, hT1⟩ := hpw.at_ htxs
  have HR := Lib.hid (h.setWho (k : Int))
  have HK := Lib.hid hk
  have c10 : w.cell? ⟨r, 10, none⟩ = some (.int .i64 who0) := h.rcells 10
  have f10 := h.run.free 10
  have hlt := h.tlt hk
  have hkp : k < pl.length := (List.getElem?_eq_some_iff.1 htxs).1
  obtain ⟨n1, hn1⟩ : ∃ n, n = pl.length := ⟨_, rfl⟩
  obtain ⟨n2, hn2⟩ : ∃ n, n = txs.length := ⟨_, rfl⟩
  obtain ⟨n, hn⟩ : ∃ n, n = m.T.length := ⟨_, rfl⟩
  rw [← hn1] at e1
  rw [← hn2] at hc1
  have HC := Lib.hid (fun W (hb : Below (w.setCell ⟨r, 10, none⟩ (.int .i64 (k : Int))).heap.size (w.setCell ⟨r, 10, none⟩ (.int .i64 (k : Int))) W) => (show W.cell? ⟨r, 4, none⟩ = some (.slice (some ⟨a.gT, 0, none⟩) n a.cT) ∧ W.cell? ⟨r, 9, none⟩ = some (.slice (some ⟨b1, o1, none⟩) n1 c1) ∧ W.cell? ⟨b1, o1 + k, none⟩ = some (.slice A1 n2 d1) ∧ W.cell? ⟨a.gT, k * 11 + 1, none⟩ = some (.int .i64 (x : Int)) from
    ⟨by rw [hn]; exact (HR.out.keep hb).rcells 4, by rw [← e1]; exact (HR.out.keep hb).rcells 9, (hb.cell (p := ⟨b1, o1 + k, none⟩) hb1).trans hc1, by rw [← htx]; exact (HR.out.keep hb).tcells HK.out (j := 1) rfl⟩))
  have HME := Lib.hid (fun W (hb : Below (w.setCell ⟨r, 10, none⟩ (.int .i64 (k : Int))).heap.size (w.setCell ⟨r, 10, none⟩ (.int .i64 (k : Int))) W) => me_any (HR.out.keep hb) HK.out)
  have hk0 : (0 : Int) ≤ (k : Int) := by omega
  have hk0' : ¬ (k : Int) < 0 := by omega
  have hk1 : (k : Int) < (n1 : Int) := by omega
  have hkn : ¬ (n : Int) ≤ (k : Int) := by omega
  have hx0 : (0 : Int) ≤ (x : Int) := by omega
  have hxz : (n2 : Int) ≤ (x : Int) := by omega
  clear h hk hpl htxs htx hpw hb1 hm1 hc1 hT1 e1 hn1 hn2 hn hkp hlt hx
  go_enter Try.func24, Try.ntmps24
  go_wp2_with fail
  refine wp_region_held_drew (S := fun W => W.cell? ⟨r, 4, none⟩ = some (.slice (some ⟨a.gT, 0, none⟩) n a.cT) ∧ W.cell? ⟨r, 9, none⟩ = some (.slice (some ⟨b1, o1, none⟩) n1 c1) ∧ W.cell? ⟨b1, o1 + k, none⟩ = some (.slice A1 n2 d1) ∧ W.cell? ⟨a.gT, k * 11 + 1, none⟩ = some (.int .i64 (x : Int))) (by kernel_rfl) ?_ (fun hHelddr => ?_)
  · exact HC.out _ (Below.refl _ _).drew
  refine wpAnyH_take (i := 0) (oi := { dst := some 9, op := Op.move (Operand.tmp 1), type := 3, pos := "stm.go:204", after := _, guard := none }) (v := ?vdr0) rfl (by kernel_rfl) (by kernel_rfl) (by kernel_rfl) (fun _ _ _ h => h) (Or.inl ⟨by rfl, ?hydr0⟩) (by assumption) ?restdr0
  case hydr0 => (intro w hSw; (try dsimp only at hSw); go_simp <;> with_reducible rfl)
  try simp only [Act.put, List.setIfInBounds_toArray, List.set_cons_zero, List.set_cons_succ]
  refine wpAnyH_take (i := 1) (oi := { dst := some 10, op := Op.binOp BinOp.lss 3 (Operand.tmp 9) (Operand.const (Value.int IntKind.i64 0)) 3, type := 4, pos := "stm.go:204", after := _, guard := none }) (v := .bool false) rfl (by kernel_rfl) (by kernel_rfl) (by kernel_rfl) (fun _ _ _ h => h) (Or.inl ⟨by rfl, ?hydr1⟩) (by assumption) ?restdr1
  case hydr1 => (intro w hSw; (try dsimp only at hSw); go_simp <;> first | done | with_reducible rfl | omega | (simp; done) | (simp; omega) | (simp [*]; done) | (simp [*]; omega) | exact decide_eq_false (by omega) | exact decide_eq_true (by omega))
  try simp only [Act.put, List.setIfInBounds_toArray, List.set_cons_zero, List.set_cons_succ]
  refine wpAnyH_take (i := 2) (oi := { dst := some 11, op := Op.move (Operand.tmp 10), type := 4, pos := "stm.go:204", after := _, guard := none }) (v := ?vdr2) rfl (by kernel_rfl) (by kernel_rfl) (by kernel_rfl) (fun _ _ _ h => h) (Or.inl ⟨by rfl, ?hydr2⟩) (by assumption) ?restdr2
  case hydr2 => (intro w hSw; (try dsimp only at hSw); go_simp <;> with_reducible rfl)
  try simp only [Act.put, List.setIfInBounds_toArray, List.set_cons_zero, List.set_cons_succ]
  refine wpAnyH_take (i := 3) (oi := { dst := some 12, op := Op.move (Operand.tmp 1), type := 3, pos := "stm.go:204", after := _, guard := some (2, false) }) (v := ?vdr3) rfl (by kernel_rfl) (by kernel_rfl) (by kernel_rfl) (fun _ _ _ h => h) (Or.inl ⟨by rfl, ?hydr3⟩) (by assumption) ?restdr3
  case hydr3 => (intro w hSw; (try dsimp only at hSw); go_simp <;> with_reducible rfl)
  try simp only [Act.put, List.setIfInBounds_toArray, List.set_cons_zero, List.set_cons_succ]
  refine wpAnyH_take (i := 4) (oi := { dst := some 13, op := Op.move (Operand.tmp 0), type := 58, pos := "stm.go:204", after := _, guard := some (2, false) }) (v := ?vdr4) rfl (by kernel_rfl) (by kernel_rfl) (by kernel_rfl) (fun _ _ _ h => h) (Or.inl ⟨by rfl, ?hydr4⟩) (by assumption) ?restdr4
  case hydr4 => (intro w hSw; (try dsimp only at hSw); go_simp <;> with_reducible rfl)
  try simp only [Act.put, List.setIfInBounds_toArray, List.set_cons_zero, List.set_cons_succ]
  refine wpAnyH_take (i := 5) (oi := { dst := some 14, op := Op.nilCheck (Operand.tmp 13), type := 0, pos := "stm.go:204", after := _, guard := some (2, false) }) (v := ?vdr5) rfl (by kernel_rfl) (by kernel_rfl) (by kernel_rfl) (fun _ _ _ h => h) (Or.inl ⟨by rfl, ?hydr5⟩) (by assumption) ?restdr5
  case hydr5 => (intro w hSw; (try dsimp only at hSw); go_simp <;> with_reducible rfl)
  try simp only [Act.put, List.setIfInBounds_toArray, List.set_cons_zero, List.set_cons_succ]
  refine wpAnyH_take (i := 6) (oi := { dst := some 15, op := Op.fieldAddr 60 (Operand.tmp 14) 0, type := 0, pos := "stm.go:204", after := _, guard := some (2, false) }) (v := ?vdr6) rfl (by kernel_rfl) (by kernel_rfl) (by kernel_rfl) (fun _ _ _ h => h) (Or.inl ⟨by rfl, ?hydr6⟩) (by assumption) ?restdr6
  case hydr6 => (intro w hSw; (try dsimp only at hSw); go_simp <;> with_reducible rfl)
  try simp only [Act.put, List.setIfInBounds_toArray, List.set_cons_zero, List.set_cons_succ]
  refine wpAnyH_take (i := 7) (oi := { dst := some 16, op := Op.fieldAddr 34 (Operand.tmp 15) 2, type := 0, pos := "stm.go:204", after := _, guard := some (2, false) }) (v := ?vdr7) rfl (by kernel_rfl) (by kernel_rfl) (by kernel_rfl) (fun _ _ _ h => h) (Or.inl ⟨by rfl, ?hydr7⟩) (by assumption) ?restdr7
  case hydr7 => (intro w hSw; (try dsimp only at hSw); go_simp <;> with_reducible rfl)
  try simp only [Act.put, List.setIfInBounds_toArray, List.set_cons_zero, List.set_cons_succ]
  refine wpAnyH_take (i := 8) (oi := { dst := some 17, op := Op.load 31 (Operand.tmp 16), type := 31, pos := "stm.go:204", after := _, guard := some (2, false) }) (v := ?vdr8) rfl (by kernel_rfl) (by kernel_rfl) (by kernel_rfl) (fun _ _ _ h => h) (Or.inl ⟨by rfl, ?hydr8⟩) (by assumption) ?restdr8
  case hydr8 => (intro w hSw; (try dsimp only at hSw); go_simp <;> with_reducible rfl)
  try simp only [Act.put, List.setIfInBounds_toArray, List.set_cons_zero, List.set_cons_succ]
  refine wpAnyH_take (i := 9) (oi := { dst := some 18, op := Op.call { callee := Callee.builtin Builtin.len, args := #[Operand.tmp 17], argTypes := #[31] }, type := 3, pos := "stm.go:204", after := _, guard := some (2, false) }) (v := ?vdr9) rfl (by kernel_rfl) (by kernel_rfl) (by kernel_rfl) (fun _ _ _ h => h) (Or.inl ⟨by rfl, ?hydr9⟩) (by assumption) ?restdr9
  case hydr9 => (intro w hSw; (try dsimp only at hSw); go_simp <;> with_reducible rfl)
  try simp only [Act.put, List.setIfInBounds_toArray, List.set_cons_zero, List.set_cons_succ]
  refine wpAnyH_take (i := 10) (oi := { dst := some 19, op := Op.binOp BinOp.geq 3 (Operand.tmp 12) (Operand.tmp 18) 3, type := 4, pos := "stm.go:204", after := _, guard := some (2, false) }) (v := .bool false) rfl (by kernel_rfl) (by kernel_rfl) (by kernel_rfl) (fun _ _ _ h => h) (Or.inl ⟨by rfl, ?hydr10⟩) (by assumption) ?restdr10
  case hydr10 => (intro w hSw; (try dsimp only at hSw); go_simp <;> first | done | with_reducible rfl | omega | (simp; done) | (simp; omega) | (simp [*]; done) | (simp [*]; omega) | exact decide_eq_false (by omega) | exact decide_eq_true (by omega))
  try simp only [Act.put, List.setIfInBounds_toArray, List.set_cons_zero, List.set_cons_succ]
  refine wpAnyH_take (i := 11) (oi := { dst := some 20, op := Op.pick (Operand.tmp 11) (Operand.const (Value.bool true)) (Operand.tmp 19), type := 4, pos := "stm.go:204", after := _, guard := none }) (v := ?vdr11) rfl (by kernel_rfl) (by kernel_rfl) (by kernel_rfl) (fun _ _ _ h => h) (Or.inl ⟨by rfl, ?hydr11⟩) (by assumption) ?restdr11
  case hydr11 => (intro w hSw; (try dsimp only at hSw); go_simp <;> with_reducible rfl)
  try simp only [Act.put, List.setIfInBounds_toArray, List.set_cons_zero, List.set_cons_succ]
  refine wpAnyH_take (i := 12) (oi := { dst := some 21, op := Op.move (Operand.tmp 20), type := 4, pos := "stm.go:204", after := _, guard := none }) (v := ?vdr12) rfl (by kernel_rfl) (by kernel_rfl) (by kernel_rfl) (fun _ _ _ h => h) (Or.inl ⟨by rfl, ?hydr12⟩) (by assumption) ?restdr12
  case hydr12 => (intro w hSw; (try dsimp only at hSw); go_simp <;> with_reducible rfl)
  try simp only [Act.put, List.setIfInBounds_toArray, List.set_cons_zero, List.set_cons_succ]
  refine wpAnyH_take (i := 13) (oi := { dst := some 22, op := Op.move (Operand.tmp 0), type := 58, pos := "stm.go:204", after := _, guard := some (12, false) }) (v := ?vdr13) rfl (by kernel_rfl) (by kernel_rfl) (by kernel_rfl) (fun _ _ _ h => h) (Or.inl ⟨by rfl, ?hydr13⟩) (by assumption) ?restdr13
  case hydr13 => (intro w hSw; (try dsimp only at hSw); go_simp <;> with_reducible rfl)
  try simp only [Act.put, List.setIfInBounds_toArray, List.set_cons_zero, List.set_cons_succ]
  refine wpAnyH_take (i := 18) (oi := { dst := some 27, op := Op.move (Operand.tmp 0), type := 58, pos := "stm.go:204", after := _, guard := some (12, false) }) (v := ?vdr18) rfl (by kernel_rfl) (by kernel_rfl) (by kernel_rfl) (fun _ _ _ h => h) (Or.inl ⟨by rfl, ?hydr18⟩) (by assumption) ?restdr18
  case hydr18 => (intro w hSw; (try dsimp only at hSw); go_simp <;> with_reducible rfl)
  try simp only [Act.put, List.setIfInBounds_toArray, List.set_cons_zero, List.set_cons_succ]
  refine wpAnyH_take (i := 19) (oi := { dst := some 28, op := Op.nilCheck (Operand.tmp 27), type := 0, pos := "stm.go:204", after := _, guard := some (12, false) }) (v := ?vdr19) rfl (by kernel_rfl) (by kernel_rfl) (by kernel_rfl) (fun _ _ _ h => h) (Or.inl ⟨by rfl, ?hydr19⟩) (by assumption) ?restdr19
  case hydr19 => (intro w hSw; (try dsimp only at hSw); go_simp <;> with_reducible rfl)
  try simp only [Act.put, List.setIfInBounds_toArray, List.set_cons_zero, List.set_cons_succ]
  refine wpAnyH_take (i := 20) (oi := { dst := some 29, op := Op.fieldAddr 60 (Operand.tmp 28) 1, type := 0, pos := "stm.go:204", after := _, guard := some (12, false) }) (v := ?vdr20) rfl (by kernel_rfl) (by kernel_rfl) (by kernel_rfl) (fun _ _ _ h => h) (Or.inl ⟨by rfl, ?hydr20⟩) (by assumption) ?restdr20
  case hydr20 => (intro w hSw; (try dsimp only at hSw); go_simp <;> with_reducible rfl)
  try simp only [Act.put, List.setIfInBounds_toArray, List.set_cons_zero, List.set_cons_succ]
  refine wpAnyH_take (i := 21) (oi := { dst := some 30, op := Op.fieldAddr 24 (Operand.tmp 29) 2, type := 0, pos := "stm.go:204", after := _, guard := some (12, false) }) (v := ?vdr21) rfl (by kernel_rfl) (by kernel_rfl) (by kernel_rfl) (fun _ _ _ h => h) (Or.inl ⟨by rfl, ?hydr21⟩) (by assumption) ?restdr21
  case hydr21 => (intro w hSw; (try dsimp only at hSw); go_simp <;> with_reducible rfl)
  try simp only [Act.put, List.setIfInBounds_toArray, List.set_cons_zero, List.set_cons_succ]
  refine wpAnyH_take (i := 22) (oi := { dst := some 31, op := Op.load 22 (Operand.tmp 30), type := 22, pos := "stm.go:204", after := _, guard := some (12, false) }) (v := ?vdr22) rfl (by kernel_rfl) (by kernel_rfl) (by kernel_rfl) (fun _ _ _ h => h) (Or.inl ⟨by rfl, ?hydr22⟩) (by assumption) ?restdr22
  case hydr22 => (intro w hSw; (try dsimp only at hSw); go_simp <;> with_reducible rfl)
  try simp only [Act.put, List.setIfInBounds_toArray, List.set_cons_zero, List.set_cons_succ]
  refine wpAnyH_take (i := 23) (oi := { dst := some 32, op := Op.move (Operand.tmp 1), type := 3, pos := "stm.go:204", after := _, guard := some (12, false) }) (v := ?vdr23) rfl (by kernel_rfl) (by kernel_rfl) (by kernel_rfl) (fun _ _ _ h => h) (Or.inl ⟨by rfl, ?hydr23⟩) (by assumption) ?restdr23
  case hydr23 => (intro w hSw; (try dsimp only at hSw); go_simp <;> with_reducible rfl)
  try simp only [Act.put, List.setIfInBounds_toArray, List.set_cons_zero, List.set_cons_succ]
  refine wpAnyH_take (i := 24) (oi := { dst := some 33, op := Op.indexAddr 22 (Operand.tmp 31) (Operand.tmp 32), type := 0, pos := "stm.go:204", after := _, guard := some (12, false) }) (v := ?vdr24) rfl (by kernel_rfl) (by kernel_rfl) (by kernel_rfl) (fun _ _ _ h => h) (Or.inl ⟨by rfl, ?hydr24⟩) (by assumption) ?restdr24
  case hydr24 => (intro w hSw; (try dsimp only at hSw); go_simp <;> with_reducible rfl)
  try simp only [Act.put, List.setIfInBounds_toArray, List.set_cons_zero, List.set_cons_succ]
  refine wpAnyH_take (i := 25) (oi := { dst := some 34, op := Op.load 47 (Operand.tmp 33), type := 47, pos := "stm.go:204", after := _, guard := some (12, false) }) (v := ?vdr25) rfl (by kernel_rfl) (by kernel_rfl) (by kernel_rfl) (fun _ _ _ h => h) (Or.inl ⟨by rfl, ?hydr25⟩) (by assumption) ?restdr25
  case hydr25 => (intro w hSw; (try dsimp only at hSw); go_simp <;> with_reducible rfl)
  try simp only [Act.put, List.setIfInBounds_toArray, List.set_cons_zero, List.set_cons_succ]
  refine wpAnyH_take (i := 26) (oi := { dst := some 35, op := Op.call { callee := Callee.builtin Builtin.len, args := #[Operand.tmp 34], argTypes := #[47] }, type := 3, pos := "stm.go:204", after := _, guard := some (12, false) }) (v := ?vdr26) rfl (by kernel_rfl) (by kernel_rfl) (by kernel_rfl) (fun _ _ _ h => h) (Or.inl ⟨by rfl, ?hydr26⟩) (by assumption) ?restdr26
  case hydr26 => (intro w hSw; (try dsimp only at hSw); go_simp <;> with_reducible rfl)
  try simp only [Act.put, List.setIfInBounds_toArray, List.set_cons_zero, List.set_cons_succ]
  refine wpAnyH_ready (rs := [14]) (by kernel_rfl) (by simp) ?_
  refine AllReadyH.cons (o := { dst := some 23, op := Op.call { callee := Callee.value (Operand.func 43), args := #[Operand.tmp 22], argTypes := #[58] }, type := 76, pos := "stm.go:204", after := _, guard := some (12, false) }) rfl (fun K hK => ?_) AllReadyH.nil
  go_simp
  refine (HME.out _ (Below.refl _ _).drew).mono ?_
  rintro e w1 ⟨rfl, hb1'⟩
  have HB1 := Lib.hid ((Below.refl _ _).drew.trans hb1')
  clear hb1'
  try go_wp2_with fail
  refine hK.out _ _ ?_ (fun hHelddr14 => ?_)
  · exact HC.out _ HB1.out
  clear hK K hHelddr
  try simp only [Act.put, List.setIfInBounds_toArray, List.set_cons_zero, List.set_cons_succ]
  refine wpAnyH_take (i := 15) (oi := { dst := some 24, op := Op.nilCheck (Operand.tmp 23), type := 0, pos := "stm.go:204", after := _, guard := some (12, false) }) (v := ?vdr15) rfl (by kernel_rfl) (by kernel_rfl) (by kernel_rfl) (fun _ _ _ h => h) (Or.inl ⟨by rfl, ?hydr15⟩) (by assumption) ?restdr15
  case hydr15 => (intro w hSw; (try dsimp only at hSw); go_simp <;> with_reducible rfl)
  try simp only [Act.put, List.setIfInBounds_toArray, List.set_cons_zero, List.set_cons_succ]
  refine wpAnyH_take (i := 16) (oi := { dst := some 25, op := Op.fieldAddr 46 (Operand.tmp 24) 1, type := 0, pos := "stm.go:204", after := _, guard := some (12, false) }) (v := ?vdr16) rfl (by kernel_rfl) (by kernel_rfl) (by kernel_rfl) (fun _ _ _ h => h) (Or.inl ⟨by rfl, ?hydr16⟩) (by assumption) ?restdr16
  case hydr16 => (intro w hSw; (try dsimp only at hSw); go_simp <;> with_reducible rfl)
  try simp only [Act.put, List.setIfInBounds_toArray, List.set_cons_zero, List.set_cons_succ]
  refine wpAnyH_take (i := 17) (oi := { dst := some 26, op := Op.load 3 (Operand.tmp 25), type := 3, pos := "stm.go:204", after := _, guard := some (12, false) }) (v := ?vdr17) rfl (by kernel_rfl) (by kernel_rfl) (by kernel_rfl) (fun _ _ _ h => h) (Or.inl ⟨by rfl, ?hydr17⟩) (by assumption) ?restdr17
  case hydr17 => (intro w hSw; (try dsimp only at hSw); go_simp <;> with_reducible rfl)
  try simp only [Act.put, List.setIfInBounds_toArray, List.set_cons_zero, List.set_cons_succ]
  refine wpAnyH_take (i := 27) (oi := { dst := some 36, op := Op.binOp BinOp.geq 3 (Operand.tmp 26) (Operand.tmp 35) 3, type := 4, pos := "stm.go:204", after := _, guard := some (12, false) }) (v := .bool true) rfl (by kernel_rfl) (by kernel_rfl) (by kernel_rfl) (fun _ _ _ h => h) (Or.inl ⟨by rfl, ?hydr27⟩) (by assumption) ?restdr27
  case hydr27 => (intro w hSw; (try dsimp only at hSw); go_simp <;> first | done | with_reducible rfl | omega | (simp; done) | (simp; omega) | (simp [*]; done) | (simp [*]; omega) | exact decide_eq_false (by omega) | exact decide_eq_true (by omega))
  try simp only [Act.put, List.setIfInBounds_toArray, List.set_cons_zero, List.set_cons_succ]
  refine wpAnyH_take (i := 28) (oi := { dst := some 37, op := Op.pick (Operand.tmp 21) (Operand.const (Value.bool true)) (Operand.tmp 36), type := 4, pos := "stm.go:204", after := _, guard := none }) (v := ?vdr28) rfl (by kernel_rfl) (by kernel_rfl) (by kernel_rfl) (fun _ _ _ h => h) (Or.inl ⟨by rfl, ?hydr28⟩) (by assumption) ?restdr28
  case hydr28 => (intro w hSw; (try dsimp only at hSw); go_simp <;> with_reducible rfl)
  try simp only [Act.put, List.setIfInBounds_toArray, List.set_cons_zero, List.set_cons_succ]
  refine wpAnyH_done (by kernel_rfl) ?_ _

  go_wp2
  refine bodyPost_ret (results_none rfl _ _ _) rfl ?_
  exact ⟨rfl, _, _, _, HR.out.keep HB1.out, rfl⟩

set_option maxHeartbeats 4000000 in
theorem step_begin {who0 : Int} (h : RunW w0 w r φ a m pw pm pv who0) {k : Nat} {t : Tx} (hk : m.T[k]? = some t) {pl : List (List (List Ac))} (hpl : PlV w0 pv pl) {txs : List (List Ac)} (htxs : pl[k]? = some txs) (x : Nat) (htx : t.tx = (x : Int)) (hx : x < txs.length) (hst : t.st = 0) {mm : Mm}
    (HM : ∀ W a', RunW w0 W r φ a m pw pm pv (k : Int) → a' = a → Calls Try.prog 44 #[.pointer (some ⟨r, 0, none⟩)] W (DonePost w0 r a mm k pw pm pv)) :
    Calls Try.prog 24 #[.pointer (some ⟨r, 0, none⟩), .int .i64 (k : Int)] w (StepPost w0 r mm pw pm pv (k : Int)) := by
  have hpw := hpl.below (h.setWho (k : Int)).base
  obtain ⟨b1, o1, c1, A1, d1, e1, hb1, hm1, hc1, hT1⟩ := hpw.at_ htxs
  have HR := Lib.hid (h.setWho (k : Int))
  have HK := Lib.hid hk
  have c10 : w.cell? ⟨r, 10, none⟩ = some (.int .i64 who0) := h.rcells 10
  have f10 := h.run.free 10
  have hlt := h.tlt hk
  have hkp : k < pl.length := (List.getElem?_eq_some_iff.1 htxs).1
  obtain ⟨n1, hn1⟩ : ∃ n, n = pl.length := ⟨_, rfl⟩
  obtain ⟨n2, hn2⟩ : ∃ n, n = txs.length := ⟨_, rfl⟩
  obtain ⟨n, hn⟩ : ∃ n, n = m.T.length := ⟨_, rfl⟩
  rw [← hn1] at e1
  rw [← hn2] at hc1
  have HC := Lib.hid (fun W (hb : Below (w.setCell ⟨r, 10, none⟩ (.int .i64 (k : Int))).heap.size (w.setCell ⟨r, 10, none⟩ (.int .i64 (k : Int))) W) => (show W.cell? ⟨r, 4, none⟩ = some (.slice (some ⟨a.gT, 0, none⟩) n a.cT) ∧ W.cell? ⟨r, 9, none⟩ = some (.slice (some ⟨b1, o1, none⟩) n1 c1) ∧ W.cell? ⟨b1, o1 + k, none⟩ = some (.slice A1 n2 d1) ∧ W.cell? ⟨a.gT, k * 11 + 1, none⟩ = some (.int .i64 (x : Int)) from
    ⟨by rw [hn]; exact (HR.out.keep hb).rcells 4, by rw [← e1]; exact (HR.out.keep hb).rcells 9, (hb.cell (p := ⟨b1, o1 + k, none⟩) hb1).trans hc1, by rw [← htx]; exact (HR.out.keep hb).tcells HK.out (j := 1) rfl⟩))
  have HME := Lib.hid (fun W (hb : Below (w.setCell ⟨r, 10, none⟩ (.int .i64 (k : Int))).heap.size (w.setCell ⟨r, 10, none⟩ (.int .i64 (k : Int))) W) => me_any (HR.out.keep hb) HK.out)
  have hk0 : (0 : Int) ≤ (k : Int) := by omega
  have hk0' : ¬ (k : Int) < 0 := by omega
  have hk1 : (k : Int) < (n1 : Int) := by omega
  have hkn : ¬ (n : Int) ≤ (k : Int) := by omega
  have hx0 : (0 : Int) ≤ (x : Int) := by omega
  have hxz : ¬ (n2 : Int) ≤ (x : Int) := by omega
  have HMM := Lib.hid HM
  have HC0 := Lib.hid (fun W (hb : Below (w.setCell ⟨r, 10, none⟩ (.int .i64 (k : Int))).heap.size (w.setCell ⟨r, 10, none⟩ (.int .i64 (k : Int))) W) => (show W.cell? ⟨a.gT, k * 11, none⟩ = some (.int .i64 0) from by have e := (HR.out.keep hb).tcells HK.out (j := 0) rfl; rw [hst] at e; simpa using e))
  have hTl : a.gT < (w.setCell ⟨r, 10, none⟩ (.int .i64 (k : Int))).heap.size := HR.out.apart.2.2.2.1
  clear h hk hpl htxs htx hpw hb1 hm1 hc1 hT1 e1 hn1 hn2 hn hkp hlt hx hst HM
  go_enter Try.func24, Try.ntmps24
  go_wp2_with fail
  refine wp_region_held_drew (S := fun W => W.cell? ⟨r, 4, none⟩ = some (.slice (some ⟨a.gT, 0, none⟩) n a.cT) ∧ W.cell? ⟨r, 9, none⟩ = some (.slice (some ⟨b1, o1, none⟩) n1 c1) ∧ W.cell? ⟨b1, o1 + k, none⟩ = some (.slice A1 n2 d1) ∧ W.cell? ⟨a.gT, k * 11 + 1, none⟩ = some (.int .i64 (x : Int))) (by kernel_rfl) ?_ (fun hHelder => ?_)
  · exact HC.out _ (Below.refl _ _).drew
  refine wpAnyH_take (i := 0) (oi := { dst := some 9, op := Op.move (Operand.tmp 1), type := 3, pos := "stm.go:204", after := _, guard := none }) (v := ?ver0) rfl (by kernel_rfl) (by kernel_rfl) (by kernel_rfl) (fun _ _ _ h => h) (Or.inl ⟨by rfl, ?hyer0⟩) (by assumption) ?rester0
  case hyer0 => (intro w hSw; (try dsimp only at hSw); go_simp <;> with_reducible rfl)
  try simp only [Act.put, List.setIfInBounds_toArray, List.set_cons_zero, List.set_cons_succ]
  refine wpAnyH_take (i := 1) (oi := { dst := some 10, op := Op.binOp BinOp.lss 3 (Operand.tmp 9) (Operand.const (Value.int IntKind.i64 0)) 3, type := 4, pos := "stm.go:204", after := _, guard := none }) (v := .bool false) rfl (by kernel_rfl) (by kernel_rfl) (by kernel_rfl) (fun _ _ _ h => h) (Or.inl ⟨by rfl, ?hyer1⟩) (by assumption) ?rester1
  case hyer1 => (intro w hSw; (try dsimp only at hSw); go_simp <;> first | done | with_reducible rfl | omega | (simp; done) | (simp; omega) | (simp [*]; done) | (simp [*]; omega) | exact decide_eq_false (by omega) | exact decide_eq_true (by omega))
  try simp only [Act.put, List.setIfInBounds_toArray, List.set_cons_zero, List.set_cons_succ]
  refine wpAnyH_take (i := 2) (oi := { dst := some 11, op := Op.move (Operand.tmp 10), type := 4, pos := "stm.go:204", after := _, guard := none }) (v := ?ver2) rfl (by kernel_rfl) (by kernel_rfl) (by kernel_rfl) (fun _ _ _ h => h) (Or.inl ⟨by rfl, ?hyer2⟩) (by assumption) ?rester2
  case hyer2 => (intro w hSw; (try dsimp only at hSw); go_simp <;> with_reducible rfl)
  try simp only [Act.put, List.setIfInBounds_toArray, List.set_cons_zero, List.set_cons_succ]
  refine wpAnyH_take (i := 3) (oi := { dst := some 12, op := Op.move (Operand.tmp 1), type := 3, pos := "stm.go:204", after := _, guard := some (2, false) }) (v := ?ver3) rfl (by kernel_rfl) (by kernel_rfl) (by kernel_rfl) (fun _ _ _ h => h) (Or.inl ⟨by rfl, ?hyer3⟩) (by assumption) ?rester3
  case hyer3 => (intro w hSw; (try dsimp only at hSw); go_simp <;> with_reducible rfl)
  try simp only [Act.put, List.setIfInBounds_toArray, List.set_cons_zero, List.set_cons_succ]
  refine wpAnyH_take (i := 4) (oi := { dst := some 13, op := Op.move (Operand.tmp 0), type := 58, pos := "stm.go:204", after := _, guard := some (2, false) }) (v := ?ver4) rfl (by kernel_rfl) (by kernel_rfl) (by kernel_rfl) (fun _ _ _ h => h) (Or.inl ⟨by rfl, ?hyer4⟩) (by assumption) ?rester4
  case hyer4 => (intro w hSw; (try dsimp only at hSw); go_simp <;> with_reducible rfl)
  try simp only [Act.put, List.setIfInBounds_toArray, List.set_cons_zero, List.set_cons_succ]
  refine wpAnyH_take (i := 5) (oi := { dst := some 14, op := Op.nilCheck (Operand.tmp 13), type := 0, pos := "stm.go:204", after := _, guard := some (2, false) }) (v := ?ver5) rfl (by kernel_rfl) (by kernel_rfl) (by kernel_rfl) (fun _ _ _ h => h) (Or.inl ⟨by rfl, ?hyer5⟩) (by assumption) ?rester5
  case hyer5 => (intro w hSw; (try dsimp only at hSw); go_simp <;> with_reducible rfl)
  try simp only [Act.put, List.setIfInBounds_toArray, List.set_cons_zero, List.set_cons_succ]
  refine wpAnyH_take (i := 6) (oi := { dst := some 15, op := Op.fieldAddr 60 (Operand.tmp 14) 0, type := 0, pos := "stm.go:204", after := _, guard := some (2, false) }) (v := ?ver6) rfl (by kernel_rfl) (by kernel_rfl) (by kernel_rfl) (fun _ _ _ h => h) (Or.inl ⟨by rfl, ?hyer6⟩) (by assumption) ?rester6
  case hyer6 => (intro w hSw; (try dsimp only at hSw); go_simp <;> with_reducible rfl)
  try simp only [Act.put, List.setIfInBounds_toArray, List.set_cons_zero, List.set_cons_succ]
  refine wpAnyH_take (i := 7) (oi := { dst := some 16, op := Op.fieldAddr 34 (Operand.tmp 15) 2, type := 0, pos := "stm.go:204", after := _, guard := some (2, false) }) (v := ?ver7) rfl (by kernel_rfl) (by kernel_rfl) (by kernel_rfl) (fun _ _ _ h => h) (Or.inl ⟨by rfl, ?hyer7⟩) (by assumption) ?rester7
  case hyer7 => (intro w hSw; (try dsimp only at hSw); go_simp <;> with_reducible rfl)
  try simp only [Act.put, List.setIfInBounds_toArray, List.set_cons_zero, List.set_cons_succ]
  refine wpAnyH_take (i := 8) (oi := { dst := some 17, op := Op.load 31 (Operand.tmp 16), type := 31, pos := "stm.go:204", after := _, guard := some (2, false) }) (v := ?ver8) rfl (by kernel_rfl) (by kernel_rfl) (by kernel_rfl) (fun _ _ _ h => h) (Or.inl ⟨by rfl, ?hyer8⟩) (by assumption) ?rester8
  case hyer8 => (intro w hSw; (try dsimp only at hSw); go_simp <;> with_reducible rfl)
  try simp only [Act.put, List.setIfInBounds_toArray, List.set_cons_zero, List.set_cons_succ]
  refine wpAnyH_take (i := 9) (oi := { dst := some 18, op := Op.call { callee := Callee.builtin Builtin.len, args := #[Operand.tmp 17], argTypes := #[31] }, type := 3, pos := "stm.go:204", after := _, guard := some (2, false) }) (v := ?ver9) rfl (by kernel_rfl) (by kernel_rfl) (by kernel_rfl) (fun _ _ _ h => h) (Or.inl ⟨by rfl, ?hyer9⟩) (by assumption) ?rester9
  case hyer9 => (intro w hSw; (try dsimp only at hSw); go_simp <;> with_reducible rfl)
  try simp only [Act.put, List.setIfInBounds_toArray, List.set_cons_zero, List.set_cons_succ]
  refine wpAnyH_take (i := 10) (oi := { dst := some 19, op := Op.binOp BinOp.geq 3 (Operand.tmp 12) (Operand.tmp 18) 3, type := 4, pos := "stm.go:204", after := _, guard := some (2, false) }) (v := .bool false) rfl (by kernel_rfl) (by kernel_rfl) (by kernel_rfl) (fun _ _ _ h => h) (Or.inl ⟨by rfl, ?hyer10⟩) (by assumption) ?rester10
  case hyer10 => (intro w hSw; (try dsimp only at hSw); go_simp <;> first | done | with_reducible rfl | omega | (simp; done) | (simp; omega) | (simp [*]; done) | (simp [*]; omega) | exact decide_eq_false (by omega) | exact decide_eq_true (by omega))
  try simp only [Act.put, List.setIfInBounds_toArray, List.set_cons_zero, List.set_cons_succ]
  refine wpAnyH_take (i := 11) (oi := { dst := some 20, op := Op.pick (Operand.tmp 11) (Operand.const (Value.bool true)) (Operand.tmp 19), type := 4, pos := "stm.go:204", after := _, guard := none }) (v := ?ver11) rfl (by kernel_rfl) (by kernel_rfl) (by kernel_rfl) (fun _ _ _ h => h) (Or.inl ⟨by rfl, ?hyer11⟩) (by assumption) ?rester11
  case hyer11 => (intro w hSw; (try dsimp only at hSw); go_simp <;> with_reducible rfl)
  try simp only [Act.put, List.setIfInBounds_toArray, List.set_cons_zero, List.set_cons_succ]
  refine wpAnyH_take (i := 12) (oi := { dst := some 21, op := Op.move (Operand.tmp 20), type := 4, pos := "stm.go:204", after := _, guard := none }) (v := ?ver12) rfl (by kernel_rfl) (by kernel_rfl) (by kernel_rfl) (fun _ _ _ h => h) (Or.inl ⟨by rfl, ?hyer12⟩) (by assumption) ?rester12
  case hyer12 => (intro w hSw; (try dsimp only at hSw); go_simp <;> with_reducible rfl)
  try simp only [Act.put, List.setIfInBounds_toArray, List.set_cons_zero, List.set_cons_succ]
  refine wpAnyH_take (i := 13) (oi := { dst := some 22, op := Op.move (Operand.tmp 0), type := 58, pos := "stm.go:204", after := _, guard := some (12, false) }) (v := ?ver13) rfl (by kernel_rfl) (by kernel_rfl) (by kernel_rfl) (fun _ _ _ h => h) (Or.inl ⟨by rfl, ?hyer13⟩) (by assumption) ?rester13
  case hyer13 => (intro w hSw; (try dsimp only at hSw); go_simp <;> with_reducible rfl)
  try simp only [Act.put, List.setIfInBounds_toArray, List.set_cons_zero, List.set_cons_succ]
  refine wpAnyH_take (i := 18) (oi := { dst := some 27, op := Op.move (Operand.tmp 0), type := 58, pos := "stm.go:204", after := _, guard := some (12, false) }) (v := ?ver18) rfl (by kernel_rfl) (by kernel_rfl) (by kernel_rfl) (fun _ _ _ h => h) (Or.inl ⟨by rfl, ?hyer18⟩) (by assumption) ?rester18
  case hyer18 => (intro w hSw; (try dsimp only at hSw); go_simp <;> with_reducible rfl)
  try simp only [Act.put, List.setIfInBounds_toArray, List.set_cons_zero, List.set_cons_succ]
  refine wpAnyH_take (i := 19) (oi := { dst := some 28, op := Op.nilCheck (Operand.tmp 27), type := 0, pos := "stm.go:204", after := _, guard := some (12, false) }) (v := ?ver19) rfl (by kernel_rfl) (by kernel_rfl) (by kernel_rfl) (fun _ _ _ h => h) (Or.inl ⟨by rfl, ?hyer19⟩) (by assumption) ?rester19
  case hyer19 => (intro w hSw; (try dsimp only at hSw); go_simp <;> with_reducible rfl)
  try simp only [Act.put, List.setIfInBounds_toArray, List.set_cons_zero, List.set_cons_succ]
  refine wpAnyH_take (i := 20) (oi := { dst := some 29, op := Op.fieldAddr 60 (Operand.tmp 28) 1, type := 0, pos := "stm.go:204", after := _, guard := some (12, false) }) (v := ?ver20) rfl (by kernel_rfl) (by kernel_rfl) (by kernel_rfl) (fun _ _ _ h => h) (Or.inl ⟨by rfl, ?hyer20⟩) (by assumption) ?rester20
  case hyer20 => (intro w hSw; (try dsimp only at hSw); go_simp <;> with_reducible rfl)
  try simp only [Act.put, List.setIfInBounds_toArray, List.set_cons_zero, List.set_cons_succ]
  refine wpAnyH_take (i := 21) (oi := { dst := some 30, op := Op.fieldAddr 24 (Operand.tmp 29) 2, type := 0, pos := "stm.go:204", after := _, guard := some (12, false) }) (v := ?ver21) rfl (by kernel_rfl) (by kernel_rfl) (by kernel_rfl) (fun _ _ _ h => h) (Or.inl ⟨by rfl, ?hyer21⟩) (by assumption) ?rester21
  case hyer21 => (intro w hSw; (try dsimp only at hSw); go_simp <;> with_reducible rfl)
  try simp only [Act.put, List.setIfInBounds_toArray, List.set_cons_zero, List.set_cons_succ]
  refine wpAnyH_take (i := 22) (oi := { dst := some 31, op := Op.load 22 (Operand.tmp 30), type := 22, pos := "stm.go:204", after := _, guard := some (12, false) }) (v := ?ver22) rfl (by kernel_rfl) (by kernel_rfl) (by kernel_rfl) (fun _ _ _ h => h) (Or.inl ⟨by rfl, ?hyer22⟩) (by assumption) ?rester22
  case hyer22 => (intro w hSw; (try dsimp only at hSw); go_simp <;> with_reducible rfl)
  try simp only [Act.put, List.setIfInBounds_toArray, List.set_cons_zero, List.set_cons_succ]
  refine wpAnyH_take (i := 23) (oi := { dst := some 32, op := Op.move (Operand.tmp 1), type := 3, pos := "stm.go:204", after := _, guard := some (12, false) }) (v := ?ver23) rfl (by kernel_rfl) (by kernel_rfl) (by kernel_rfl) (fun _ _ _ h => h) (Or.inl ⟨by rfl, ?hyer23⟩) (by assumption) ?rester23
  case hyer23 => (intro w hSw; (try dsimp only at hSw); go_simp <;> with_reducible rfl)
  try simp only [Act.put, List.setIfInBounds_toArray, List.set_cons_zero, List.set_cons_succ]
  refine wpAnyH_take (i := 24) (oi := { dst := some 33, op := Op.indexAddr 22 (Operand.tmp 31) (Operand.tmp 32), type := 0, pos := "stm.go:204", after := _, guard := some (12, false) }) (v := ?ver24) rfl (by kernel_rfl) (by kernel_rfl) (by kernel_rfl) (fun _ _ _ h => h) (Or.inl ⟨by rfl, ?hyer24⟩) (by assumption) ?rester24
  case hyer24 => (intro w hSw; (try dsimp only at hSw); go_simp <;> with_reducible rfl)
  try simp only [Act.put, List.setIfInBounds_toArray, List.set_cons_zero, List.set_cons_succ]
  refine wpAnyH_take (i := 25) (oi := { dst := some 34, op := Op.load 47 (Operand.tmp 33), type := 47, pos := "stm.go:204", after := _, guard := some (12, false) }) (v := ?ver25) rfl (by kernel_rfl) (by kernel_rfl) (by kernel_rfl) (fun _ _ _ h => h) (Or.inl ⟨by rfl, ?hyer25⟩) (by assumption) ?rester25
  case hyer25 => (intro w hSw; (try dsimp only at hSw); go_simp <;> with_reducible rfl)
  try simp only [Act.put, List.setIfInBounds_toArray, List.set_cons_zero, List.set_cons_succ]
  refine wpAnyH_take (i := 26) (oi := { dst := some 35, op := Op.call { callee := Callee.builtin Builtin.len, args := #[Operand.tmp 34], argTypes := #[47] }, type := 3, pos := "stm.go:204", after := _, guard := some (12, false) }) (v := ?ver26) rfl (by kernel_rfl) (by kernel_rfl) (by kernel_rfl) (fun _ _ _ h => h) (Or.inl ⟨by rfl, ?hyer26⟩) (by assumption) ?rester26
  case hyer26 => (intro w hSw; (try dsimp only at hSw); go_simp <;> with_reducible rfl)
  try simp only [Act.put, List.setIfInBounds_toArray, List.set_cons_zero, List.set_cons_succ]
  refine wpAnyH_ready (rs := [14]) (by kernel_rfl) (by simp) ?_
  refine AllReadyH.cons (o := { dst := some 23, op := Op.call { callee := Callee.value (Operand.func 43), args := #[Operand.tmp 22], argTypes := #[58] }, type := 76, pos := "stm.go:204", after := _, guard := some (12, false) }) rfl (fun K hK => ?_) AllReadyH.nil
  go_simp
  refine (HME.out _ (Below.refl _ _).drew).mono ?_
  rintro e w1 ⟨rfl, hb1'⟩
  have HB1 := Lib.hid ((Below.refl _ _).drew.trans hb1')
  clear hb1'
  try go_wp2_with fail
  refine hK.out _ _ ?_ (fun hHelder14 => ?_)
  · exact HC.out _ HB1.out
  clear hK K hHelder
  try simp only [Act.put, List.setIfInBounds_toArray, List.set_cons_zero, List.set_cons_succ]
  refine wpAnyH_take (i := 15) (oi := { dst := some 24, op := Op.nilCheck (Operand.tmp 23), type := 0, pos := "stm.go:204", after := _, guard := some (12, false) }) (v := ?ver15) rfl (by kernel_rfl) (by kernel_rfl) (by kernel_rfl) (fun _ _ _ h => h) (Or.inl ⟨by rfl, ?hyer15⟩) (by assumption) ?rester15
  case hyer15 => (intro w hSw; (try dsimp only at hSw); go_simp <;> with_reducible rfl)
  try simp only [Act.put, List.setIfInBounds_toArray, List.set_cons_zero, List.set_cons_succ]
  refine wpAnyH_take (i := 16) (oi := { dst := some 25, op := Op.fieldAddr 46 (Operand.tmp 24) 1, type := 0, pos := "stm.go:204", after := _, guard := some (12, false) }) (v := ?ver16) rfl (by kernel_rfl) (by kernel_rfl) (by kernel_rfl) (fun _ _ _ h => h) (Or.inl ⟨by rfl, ?hyer16⟩) (by assumption) ?rester16
  case hyer16 => (intro w hSw; (try dsimp only at hSw); go_simp <;> with_reducible rfl)
  try simp only [Act.put, List.setIfInBounds_toArray, List.set_cons_zero, List.set_cons_succ]
  refine wpAnyH_take (i := 17) (oi := { dst := some 26, op := Op.load 3 (Operand.tmp 25), type := 3, pos := "stm.go:204", after := _, guard := some (12, false) }) (v := ?ver17) rfl (by kernel_rfl) (by kernel_rfl) (by kernel_rfl) (fun _ _ _ h => h) (Or.inl ⟨by rfl, ?hyer17⟩) (by assumption) ?rester17
  case hyer17 => (intro w hSw; (try dsimp only at hSw); go_simp <;> with_reducible rfl)
  try simp only [Act.put, List.setIfInBounds_toArray, List.set_cons_zero, List.set_cons_succ]
  refine wpAnyH_take (i := 27) (oi := { dst := some 36, op := Op.binOp BinOp.geq 3 (Operand.tmp 26) (Operand.tmp 35) 3, type := 4, pos := "stm.go:204", after := _, guard := some (12, false) }) (v := .bool false) rfl (by kernel_rfl) (by kernel_rfl) (by kernel_rfl) (fun _ _ _ h => h) (Or.inl ⟨by rfl, ?hyer27⟩) (by assumption) ?rester27
  case hyer27 => (intro w hSw; (try dsimp only at hSw); go_simp <;> first | done | with_reducible rfl | omega | (simp; done) | (simp; omega) | (simp [*]; done) | (simp [*]; omega) | exact decide_eq_false (by omega) | exact decide_eq_true (by omega))
  try simp only [Act.put, List.setIfInBounds_toArray, List.set_cons_zero, List.set_cons_succ]
  refine wpAnyH_take (i := 28) (oi := { dst := some 37, op := Op.pick (Operand.tmp 21) (Operand.const (Value.bool true)) (Operand.tmp 36), type := 4, pos := "stm.go:204", after := _, guard := none }) (v := ?ver28) rfl (by kernel_rfl) (by kernel_rfl) (by kernel_rfl) (fun _ _ _ h => h) (Or.inl ⟨by rfl, ?hyer28⟩) (by assumption) ?rester28
  case hyer28 => (intro w hSw; (try dsimp only at hSw); go_simp <;> with_reducible rfl)
  try simp only [Act.put, List.setIfInBounds_toArray, List.set_cons_zero, List.set_cons_succ]
  refine wpAnyH_done (by kernel_rfl) ?_ _

  obtain ⟨fs, hfs⟩ : ∃ fs : Array Value, fs = #[.func (.func 44) #[.pointer (some ⟨r, 0, none⟩)] #[], .func (.func 45) #[.pointer (some ⟨r, 0, none⟩)] #[], .func (.func 46) #[.pointer (some ⟨r, 0, none⟩)] #[], .func (.func 47) #[.pointer (some ⟨r, 0, none⟩)] #[], .func (.func 48) #[.pointer (some ⟨r, 0, none⟩)] #[], .func (.func 49) #[.pointer (some ⟨r, 0, none⟩)] #[]] := ⟨_, rfl⟩
  have HF := Lib.hid hfs
  clear hfs
  go_wp2_with (refine wpList_store_new rfl 78 _ _ rfl fs (by rfl) (by rw [HF.out]; rfl) (by rw [HF.out]; rfl) (by rw [HF.out]; exact ways_size) (by rw [HF.out]; simp [Value.oneCell']) ?_; intro w2 hB2 hb2; have HB2 := Lib.hid hB2; have hW2 := HB1.out.trans (hb2.mono HB1.out.size); have HW2 := Lib.hid hW2; clear hB2 hb2 hW2)
  refine (HME.out _ HW2.out).mono ?_
  rintro e w3 ⟨rfl, hb3⟩
  have HB3 := Lib.hid hb3
  have HW3 := Lib.hid (HW2.out.trans (hb3.mono HW2.out.size))
  have q0 := HC0.out _ HW3.out
  have qf : w3.cell? ⟨w1.heap.size, 0, none⟩ = some (.func (.func 44) #[.pointer (some ⟨r, 0, none⟩)] #[]) := by rw [(HB2.out.keep HB3.out).cell, HF.out]; rfl
  have H3 := Lib.hid (HR.out.keep HW3.out)
  have hl1 : w1.heap.size < w3.heap.size := (HB2.out.keep HB3.out).lt
  clear hb3
  go_wp2_with fail
  refine (HMM.out _ _ H3.out rfl).mono ?_
  rintro e w4 ⟨rfl, φ4, a4, m4, h4, e4⟩
  have H4 := Lib.hid h4
  have HE4 := Lib.hid e4
  clear h4 e4
  go_wp2
  go_end0
  exact ⟨rfl, _, _, _, H4.out, HE4.out⟩

set_option maxHeartbeats 4000000 in
theorem step_work {who0 : Int} (h : RunW w0 w r φ a m pw pm pv who0) {k : Nat} {t : Tx} (hk : m.T[k]? = some t) {pl : List (List (List Ac))} (hpl : PlV w0 pv pl) {txs : List (List Ac)} (htxs : pl[k]? = some txs) (x : Nat) (htx : t.tx = (x : Int)) (hx : x < txs.length) (hst : t.st = 1) {mm : Mm}
    (HM : ∀ W a', RunW w0 W r φ a m pw pm pv (k : Int) → a' = a → Calls Try.prog 45 #[.pointer (some ⟨r, 0, none⟩)] W (DonePost w0 r a mm k pw pm pv)) :
    Calls Try.prog 24 #[.pointer (some ⟨r, 0, none⟩), .int .i64 (k : Int)] w (StepPost w0 r mm pw pm pv (k : Int)) := by
  have hpw := hpl.below (h.setWho (k : Int)).base
  obtain ⟨b1, o1, c1, A1, d1, e1, hb1, hm1, hc1, hT1⟩ := hpw.at_ htxs
  have HR := Lib.hid (h.setWho (k : Int))
  have HK := Lib.hid hk
  have c10 : w.cell? ⟨r, 10, none⟩ = some (.int .i64 who0) := h.rcells 10
  have f10 := h.run.free 10
  have hlt := h.tlt hk
  have hkp : k < pl.length := (List.getElem?_eq_some_iff.1 htxs).1
  obtain ⟨n1, hn1⟩ : ∃ n, n = pl.length := ⟨_, rfl⟩
  obtain ⟨n2, hn2⟩ : ∃ n, n = txs.length := ⟨_, rfl⟩
  obtain ⟨n, hn⟩ : ∃ n, n = m.T.length := ⟨_, rfl⟩
  rw [← hn1] at e1
  rw [← hn2] at hc1
  have HC := Lib.hid (fun W (hb : Below (w.setCell ⟨r, 10, none⟩ (.int .i64 (k : Int))).heap.size (w.setCell ⟨r, 10, none⟩ (.int .i64 (k : Int))) W) => (show W.cell? ⟨r, 4, none⟩ = some (.slice (some ⟨a.gT, 0, none⟩) n a.cT) ∧ W.cell? ⟨r, 9, none⟩ = some (.slice (some ⟨b1, o1, none⟩) n1 c1) ∧ W.cell? ⟨b1, o1 + k, none⟩ = some (.slice A1 n2 d1) ∧ W.cell? ⟨a.gT, k * 11 + 1, none⟩ = some (.int .i64 (x : Int)) from
    ⟨by rw [hn]; exact (HR.out.keep hb).rcells 4, by rw [← e1]; exact (HR.out.keep hb).rcells 9, (hb.cell (p := ⟨b1, o1 + k, none⟩) hb1).trans hc1, by rw [← htx]; exact (HR.out.keep hb).tcells HK.out (j := 1) rfl⟩))
  have HME := Lib.hid (fun W (hb : Below (w.setCell ⟨r, 10, none⟩ (.int .i64 (k : Int))).heap.size (w.setCell ⟨r, 10, none⟩ (.int .i64 (k : Int))) W) => me_any (HR.out.keep hb) HK.out)
  have hk0 : (0 : Int) ≤ (k : Int) := by omega
  have hk0' : ¬ (k : Int) < 0 := by omega
  have hk1 : (k : Int) < (n1 : Int) := by omega
  have hkn : ¬ (n : Int) ≤ (k : Int) := by omega
  have hx0 : (0 : Int) ≤ (x : Int) := by omega
  have hxz : ¬ (n2 : Int) ≤ (x : Int) := by omega
  have HMM := Lib.hid HM
  have HC0 := Lib.hid (fun W (hb : Below (w.setCell ⟨r, 10, none⟩ (.int .i64 (k : Int))).heap.size (w.setCell ⟨r, 10, none⟩ (.int .i64 (k : Int))) W) => (show W.cell? ⟨a.gT, k * 11, none⟩ = some (.int .i64 1) from by have e := (HR.out.keep hb).tcells HK.out (j := 0) rfl; rw [hst] at e; simpa using e))
  have hTl : a.gT < (w.setCell ⟨r, 10, none⟩ (.int .i64 (k : Int))).heap.size := HR.out.apart.2.2.2.1
  clear h hk hpl htxs htx hpw hb1 hm1 hc1 hT1 e1 hn1 hn2 hn hkp hlt hx hst HM
  go_enter Try.func24, Try.ntmps24
  go_wp2_with fail
  refine wp_region_held_drew (S := fun W => W.cell? ⟨r, 4, none⟩ = some (.slice (some ⟨a.gT, 0, none⟩) n a.cT) ∧ W.cell? ⟨r, 9, none⟩ = some (.slice (some ⟨b1, o1, none⟩) n1 c1) ∧ W.cell? ⟨b1, o1 + k, none⟩ = some (.slice A1 n2 d1) ∧ W.cell? ⟨a.gT, k * 11 + 1, none⟩ = some (.int .i64 (x : Int))) (by kernel_rfl) ?_ (fun hHeldfr => ?_)
  · exact HC.out _ (Below.refl _ _).drew
  refine wpAnyH_take (i := 0) (oi := { dst := some 9, op := Op.move (Operand.tmp 1), type := 3, pos := "stm.go:204", after := _, guard := none }) (v := ?vfr0) rfl (by kernel_rfl) (by kernel_rfl) (by kernel_rfl) (fun _ _ _ h => h) (Or.inl ⟨by rfl, ?hyfr0⟩) (by assumption) ?restfr0
  case hyfr0 => (intro w hSw; (try dsimp only at hSw); go_simp <;> with_reducible rfl)
  try simp only [Act.put, List.setIfInBounds_toArray, List.set_cons_zero, List.set_cons_succ]
  refine wpAnyH_take (i := 1) (oi := { dst := some 10, op := Op.binOp BinOp.lss 3 (Operand.tmp 9) (Operand.const (Value.int IntKind.i64 0)) 3, type := 4, pos := "stm.go:204", after := _, guard := none }) (v := .bool false) rfl (by kernel_rfl) (by kernel_rfl) (by kernel_rfl) (fun _ _ _ h => h) (Or.inl ⟨by rfl, ?hyfr1⟩) (by assumption) ?restfr1
  case hyfr1 => (intro w hSw; (try dsimp only at hSw); go_simp <;> first | done | with_reducible rfl | omega | (simp; done) | (simp; omega) | (simp [*]; done) | (simp [*]; omega) | exact decide_eq_false (by omega) | exact decide_eq_true (by omega))
  try simp only [Act.put, List.setIfInBounds_toArray, List.set_cons_zero, List.set_cons_succ]
  refine wpAnyH_take (i := 2) (oi := { dst := some 11, op := Op.move (Operand.tmp 10), type := 4, pos := "stm.go:204", after := _, guard := none }) (v := ?vfr2) rfl (by kernel_rfl) (by kernel_rfl) (by kernel_rfl) (fun _ _ _ h => h) (Or.inl ⟨by rfl, ?hyfr2⟩) (by assumption) ?restfr2
  case hyfr2 => (intro w hSw; (try dsimp only at hSw); go_simp <;> with_reducible rfl)
  try simp only [Act.put, List.setIfInBounds_toArray, List.set_cons_zero, List.set_cons_succ]
  refine wpAnyH_take (i := 3) (oi := { dst := some 12, op := Op.move (Operand.tmp 1), type := 3, pos := "stm.go:204", after := _, guard := some (2, false) }) (v := ?vfr3) rfl (by kernel_rfl) (by kernel_rfl) (by kernel_rfl) (fun _ _ _ h => h) (Or.inl ⟨by rfl, ?hyfr3⟩) (by assumption) ?restfr3
  case hyfr3 => (intro w hSw; (try dsimp only at hSw); go_simp <;> with_reducible rfl)
  try simp only [Act.put, List.setIfInBounds_toArray, List.set_cons_zero, List.set_cons_succ]
  refine wpAnyH_take (i := 4) (oi := { dst := some 13, op := Op.move (Operand.tmp 0), type := 58, pos := "stm.go:204", after := _, guard := some (2, false) }) (v := ?vfr4) rfl (by kernel_rfl) (by kernel_rfl) (by kernel_rfl) (fun _ _ _ h => h) (Or.inl ⟨by rfl, ?hyfr4⟩) (by assumption) ?restfr4
  case hyfr4 => (intro w hSw; (try dsimp only at hSw); go_simp <;> with_reducible rfl)
  try simp only [Act.put, List.setIfInBounds_toArray, List.set_cons_zero, List.set_cons_succ]
  refine wpAnyH_take (i := 5) (oi := { dst := some 14, op := Op.nilCheck (Operand.tmp 13), type := 0, pos := "stm.go:204", after := _, guard := some (2, false) }) (v := ?vfr5) rfl (by kernel_rfl) (by kernel_rfl) (by kernel_rfl) (fun _ _ _ h => h) (Or.inl ⟨by rfl, ?hyfr5⟩) (by assumption) ?restfr5
  case hyfr5 => (intro w hSw; (try dsimp only at hSw); go_simp <;> with_reducible rfl)
  try simp only [Act.put, List.setIfInBounds_toArray, List.set_cons_zero, List.set_cons_succ]
  refine wpAnyH_take (i := 6) (oi := { dst := some 15, op := Op.fieldAddr 60 (Operand.tmp 14) 0, type := 0, pos := "stm.go:204", after := _, guard := some (2, false) }) (v := ?vfr6) rfl (by kernel_rfl) (by kernel_rfl) (by kernel_rfl) (fun _ _ _ h => h) (Or.inl ⟨by rfl, ?hyfr6⟩) (by assumption) ?restfr6
  case hyfr6 => (intro w hSw; (try dsimp only at hSw); go_simp <;> with_reducible rfl)
  try simp only [Act.put, List.setIfInBounds_toArray, List.set_cons_zero, List.set_cons_succ]
  refine wpAnyH_take (i := 7) (oi := { dst := some 16, op := Op.fieldAddr 34 (Operand.tmp 15) 2, type := 0, pos := "stm.go:204", after := _, guard := some (2, false) }) (v := ?vfr7) rfl (by kernel_rfl) (by kernel_rfl) (by kernel_rfl) (fun _ _ _ h => h) (Or.inl ⟨by rfl, ?hyfr7⟩) (by assumption) ?restfr7
  case hyfr7 => (intro w hSw; (try dsimp only at hSw); go_simp <;> with_reducible rfl)
  try simp only [Act.put, List.setIfInBounds_toArray, List.set_cons_zero, List.set_cons_succ]
  refine wpAnyH_take (i := 8) (oi := { dst := some 17, op := Op.load 31 (Operand.tmp 16), type := 31, pos := "stm.go:204", after := _, guard := some (2, false) }) (v := ?vfr8) rfl (by kernel_rfl) (by kernel_rfl) (by kernel_rfl) (fun _ _ _ h => h) (Or.inl ⟨by rfl, ?hyfr8⟩) (by assumption) ?restfr8
  case hyfr8 => (intro w hSw; (try dsimp only at hSw); go_simp <;> with_reducible rfl)
  try simp only [Act.put, List.setIfInBounds_toArray, List.set_cons_zero, List.set_cons_succ]
  refine wpAnyH_take (i := 9) (oi := { dst := some 18, op := Op.call { callee := Callee.builtin Builtin.len, args := #[Operand.tmp 17], argTypes := #[31] }, type := 3, pos := "stm.go:204", after := _, guard := some (2, false) }) (v := ?vfr9) rfl (by kernel_rfl) (by kernel_rfl) (by kernel_rfl) (fun _ _ _ h => h) (Or.inl ⟨by rfl, ?hyfr9⟩) (by assumption) ?restfr9
  case hyfr9 => (intro w hSw; (try dsimp only at hSw); go_simp <;> with_reducible rfl)
  try simp only [Act.put, List.setIfInBounds_toArray, List.set_cons_zero, List.set_cons_succ]
  refine wpAnyH_take (i := 10) (oi := { dst := some 19, op := Op.binOp BinOp.geq 3 (Operand.tmp 12) (Operand.tmp 18) 3, type := 4, pos := "stm.go:204", after := _, guard := some (2, false) }) (v := .bool false) rfl (by kernel_rfl) (by kernel_rfl) (by kernel_rfl) (fun _ _ _ h => h) (Or.inl ⟨by rfl, ?hyfr10⟩) (by assumption) ?restfr10
  case hyfr10 => (intro w hSw; (try dsimp only at hSw); go_simp <;> first | done | with_reducible rfl | omega | (simp; done) | (simp; omega) | (simp [*]; done) | (simp [*]; omega) | exact decide_eq_false (by omega) | exact decide_eq_true (by omega))
  try simp only [Act.put, List.setIfInBounds_toArray, List.set_cons_zero, List.set_cons_succ]
  refine wpAnyH_take (i := 11) (oi := { dst := some 20, op := Op.pick (Operand.tmp 11) (Operand.const (Value.bool true)) (Operand.tmp 19), type := 4, pos := "stm.go:204", after := _, guard := none }) (v := ?vfr11) rfl (by kernel_rfl) (by kernel_rfl) (by kernel_rfl) (fun _ _ _ h => h) (Or.inl ⟨by rfl, ?hyfr11⟩) (by assumption) ?restfr11
  case hyfr11 => (intro w hSw; (try dsimp only at hSw); go_simp <;> with_reducible rfl)
  try simp only [Act.put, List.setIfInBounds_toArray, List.set_cons_zero, List.set_cons_succ]
  refine wpAnyH_take (i := 12) (oi := { dst := some 21, op := Op.move (Operand.tmp 20), type := 4, pos := "stm.go:204", after := _, guard := none }) (v := ?vfr12) rfl (by kernel_rfl) (by kernel_rfl) (by kernel_rfl) (fun _ _ _ h => h) (Or.inl ⟨by rfl, ?hyfr12⟩) (by assumption) ?restfr12
  case hyfr12 => (intro w hSw; (try dsimp only at hSw); go_simp <;> with_reducible rfl)
  try simp only [Act.put, List.setIfInBounds_toArray, List.set_cons_zero, List.set_cons_succ]
  refine wpAnyH_take (i := 13) (oi := { dst := some 22, op := Op.move (Operand.tmp 0), type := 58, pos := "stm.go:204", after := _, guard := some (12, false) }) (v := ?vfr13) rfl (by kernel_rfl) (by kernel_rfl) (by kernel_rfl) (fun _ _ _ h => h) (Or.inl ⟨by rfl, ?hyfr13⟩) (by assumption) ?restfr13
  case hyfr13 => (intro w hSw; (try dsimp only at hSw); go_simp <;> with_reducible rfl)
  try simp only [Act.put, List.setIfInBounds_toArray, List.set_cons_zero, List.set_cons_succ]
  refine wpAnyH_take (i := 18) (oi := { dst := some 27, op := Op.move (Operand.tmp 0), type := 58, pos := "stm.go:204", after := _, guard := some (12, false) }) (v := ?vfr18) rfl (by kernel_rfl) (by kernel_rfl) (by kernel_rfl) (fun _ _ _ h => h) (Or.inl ⟨by rfl, ?hyfr18⟩) (by assumption) ?restfr18
  case hyfr18 => (intro w hSw; (try dsimp only at hSw); go_simp <;> with_reducible rfl)
  try simp only [Act.put, List.setIfInBounds_toArray, List.set_cons_zero, List.set_cons_succ]
  refine wpAnyH_take (i := 19) (oi := { dst := some 28, op := Op.nilCheck (Operand.tmp 27), type := 0, pos := "stm.go:204", after := _, guard := some (12, false) }) (v := ?vfr19) rfl (by kernel_rfl) (by kernel_rfl) (by kernel_rfl) (fun _ _ _ h => h) (Or.inl ⟨by rfl, ?hyfr19⟩) (by assumption) ?restfr19
  case hyfr19 => (intro w hSw; (try dsimp only at hSw); go_simp <;> with_reducible rfl)
  try simp only [Act.put, List.setIfInBounds_toArray, List.set_cons_zero, List.set_cons_succ]
  refine wpAnyH_take (i := 20) (oi := { dst := some 29, op := Op.fieldAddr 60 (Operand.tmp 28) 1, type := 0, pos := "stm.go:204", after := _, guard := some (12, false) }) (v := ?vfr20) rfl (by kernel_rfl) (by kernel_rfl) (by kernel_rfl) (fun _ _ _ h => h) (Or.inl ⟨by rfl, ?hyfr20⟩) (by assumption) ?restfr20
  case hyfr20 => (intro w hSw; (try dsimp only at hSw); go_simp <;> with_reducible rfl)
  try simp only [Act.put, List.setIfInBounds_toArray, List.set_cons_zero, List.set_cons_succ]
  refine wpAnyH_take (i := 21) (oi := { dst := some 30, op := Op.fieldAddr 24 (Operand.tmp 29) 2, type := 0, pos := "stm.go:204", after := _, guard := some (12, false) }) (v := ?vfr21) rfl (by kernel_rfl) (by kernel_rfl) (by kernel_rfl) (fun _ _ _ h => h) (Or.inl ⟨by rfl, ?hyfr21⟩) (by assumption) ?restfr21
  case hyfr21 => (intro w hSw; (try dsimp only at hSw); go_simp <;> with_reducible rfl)
  try simp only [Act.put, List.setIfInBounds_toArray, List.set_cons_zero, List.set_cons_succ]
  refine wpAnyH_take (i := 22) (oi := { dst := some 31, op := Op.load 22 (Operand.tmp 30), type := 22, pos := "stm.go:204", after := _, guard := some (12, false) }) (v := ?vfr22) rfl (by kernel_rfl) (by kernel_rfl) (by kernel_rfl) (fun _ _ _ h => h) (Or.inl ⟨by rfl, ?hyfr22⟩) (by assumption) ?restfr22
  case hyfr22 => (intro w hSw; (try dsimp only at hSw); go_simp <;> with_reducible rfl)
  try simp only [Act.put, List.setIfInBounds_toArray, List.set_cons_zero, List.set_cons_succ]
  refine wpAnyH_take (i := 23) (oi := { dst := some 32, op := Op.move (Operand.tmp 1), type := 3, pos := "stm.go:204", after := _, guard := some (12, false) }) (v := ?vfr23) rfl (by kernel_rfl) (by kernel_rfl) (by kernel_rfl) (fun _ _ _ h => h) (Or.inl ⟨by rfl, ?hyfr23⟩) (by assumption) ?restfr23
  case hyfr23 => (intro w hSw; (try dsimp only at hSw); go_simp <;> with_reducible rfl)
  try simp only [Act.put, List.setIfInBounds_toArray, List.set_cons_zero, List.set_cons_succ]
  refine wpAnyH_take (i := 24) (oi := { dst := some 33, op := Op.indexAddr 22 (Operand.tmp 31) (Operand.tmp 32), type := 0, pos := "stm.go:204", after := _, guard := some (12, false) }) (v := ?vfr24) rfl (by kernel_rfl) (by kernel_rfl) (by kernel_rfl) (fun _ _ _ h => h) (Or.inl ⟨by rfl, ?hyfr24⟩) (by assumption) ?restfr24
  case hyfr24 => (intro w hSw; (try dsimp only at hSw); go_simp <;> with_reducible rfl)
  try simp only [Act.put, List.setIfInBounds_toArray, List.set_cons_zero, List.set_cons_succ]
  refine wpAnyH_take (i := 25) (oi := { dst := some 34, op := Op.load 47 (Operand.tmp 33), type := 47, pos := "stm.go:204", after := _, guard := some (12, false) }) (v := ?vfr25) rfl (by kernel_rfl) (by kernel_rfl) (by kernel_rfl) (fun _ _ _ h => h) (Or.inl ⟨by rfl, ?hyfr25⟩) (by assumption) ?restfr25
  case hyfr25 => (intro w hSw; (try dsimp only at hSw); go_simp <;> with_reducible rfl)
  try simp only [Act.put, List.setIfInBounds_toArray, List.set_cons_zero, List.set_cons_succ]
  refine wpAnyH_take (i := 26) (oi := { dst := some 35, op := Op.call { callee := Callee.builtin Builtin.len, args := #[Operand.tmp 34], argTypes := #[47] }, type := 3, pos := "stm.go:204", after := _, guard := some (12, false) }) (v := ?vfr26) rfl (by kernel_rfl) (by kernel_rfl) (by kernel_rfl) (fun _ _ _ h => h) (Or.inl ⟨by rfl, ?hyfr26⟩) (by assumption) ?restfr26
  case hyfr26 => (intro w hSw; (try dsimp only at hSw); go_simp <;> with_reducible rfl)
  try simp only [Act.put, List.setIfInBounds_toArray, List.set_cons_zero, List.set_cons_succ]
  refine wpAnyH_ready (rs := [14]) (by kernel_rfl) (by simp) ?_
  refine AllReadyH.cons (o := { dst := some 23, op := Op.call { callee := Callee.value (Operand.func 43), args := #[Operand.tmp 22], argTypes := #[58] }, type := 76, pos := "stm.go:204", after := _, guard := some (12, false) }) rfl (fun K hK => ?_) AllReadyH.nil
  go_simp
  refine (HME.out _ (Below.refl _ _).drew).mono ?_
  rintro e w1 ⟨rfl, hb1'⟩
  have HB1 := Lib.hid ((Below.refl _ _).drew.trans hb1')
  clear hb1'
  try go_wp2_with fail
  refine hK.out _ _ ?_ (fun hHeldfr14 => ?_)
  · exact HC.out _ HB1.out
  clear hK K hHeldfr
  try simp only [Act.put, List.setIfInBounds_toArray, List.set_cons_zero, List.set_cons_succ]
  refine wpAnyH_take (i := 15) (oi := { dst := some 24, op := Op.nilCheck (Operand.tmp 23), type := 0, pos := "stm.go:204", after := _, guard := some (12, false) }) (v := ?vfr15) rfl (by kernel_rfl) (by kernel_rfl) (by kernel_rfl) (fun _ _ _ h => h) (Or.inl ⟨by rfl, ?hyfr15⟩) (by assumption) ?restfr15
  case hyfr15 => (intro w hSw; (try dsimp only at hSw); go_simp <;> with_reducible rfl)
  try simp only [Act.put, List.setIfInBounds_toArray, List.set_cons_zero, List.set_cons_succ]
  refine wpAnyH_take (i := 16) (oi := { dst := some 25, op := Op.fieldAddr 46 (Operand.tmp 24) 1, type := 0, pos := "stm.go:204", after := _, guard := some (12, false) }) (v := ?vfr16) rfl (by kernel_rfl) (by kernel_rfl) (by kernel_rfl) (fun _ _ _ h => h) (Or.inl ⟨by rfl, ?hyfr16⟩) (by assumption) ?restfr16
  case hyfr16 => (intro w hSw; (try dsimp only at hSw); go_simp <;> with_reducible rfl)
  try simp only [Act.put, List.setIfInBounds_toArray, List.set_cons_zero, List.set_cons_succ]
  refine wpAnyH_take (i := 17) (oi := { dst := some 26, op := Op.load 3 (Operand.tmp 25), type := 3, pos := "stm.go:204", after := _, guard := some (12, false) }) (v := ?vfr17) rfl (by kernel_rfl) (by kernel_rfl) (by kernel_rfl) (fun _ _ _ h => h) (Or.inl ⟨by rfl, ?hyfr17⟩) (by assumption) ?restfr17
  case hyfr17 => (intro w hSw; (try dsimp only at hSw); go_simp <;> with_reducible rfl)
  try simp only [Act.put, List.setIfInBounds_toArray, List.set_cons_zero, List.set_cons_succ]
  refine wpAnyH_take (i := 27) (oi := { dst := some 36, op := Op.binOp BinOp.geq 3 (Operand.tmp 26) (Operand.tmp 35) 3, type := 4, pos := "stm.go:204", after := _, guard := some (12, false) }) (v := .bool false) rfl (by kernel_rfl) (by kernel_rfl) (by kernel_rfl) (fun _ _ _ h => h) (Or.inl ⟨by rfl, ?hyfr27⟩) (by assumption) ?restfr27
  case hyfr27 => (intro w hSw; (try dsimp only at hSw); go_simp <;> first | done | with_reducible rfl | omega | (simp; done) | (simp; omega) | (simp [*]; done) | (simp [*]; omega) | exact decide_eq_false (by omega) | exact decide_eq_true (by omega))
  try simp only [Act.put, List.setIfInBounds_toArray, List.set_cons_zero, List.set_cons_succ]
  refine wpAnyH_take (i := 28) (oi := { dst := some 37, op := Op.pick (Operand.tmp 21) (Operand.const (Value.bool true)) (Operand.tmp 36), type := 4, pos := "stm.go:204", after := _, guard := none }) (v := ?vfr28) rfl (by kernel_rfl) (by kernel_rfl) (by kernel_rfl) (fun _ _ _ h => h) (Or.inl ⟨by rfl, ?hyfr28⟩) (by assumption) ?restfr28
  case hyfr28 => (intro w hSw; (try dsimp only at hSw); go_simp <;> with_reducible rfl)
  try simp only [Act.put, List.setIfInBounds_toArray, List.set_cons_zero, List.set_cons_succ]
  refine wpAnyH_done (by kernel_rfl) ?_ _

  obtain ⟨fs, hfs⟩ : ∃ fs : Array Value, fs = #[.func (.func 44) #[.pointer (some ⟨r, 0, none⟩)] #[], .func (.func 45) #[.pointer (some ⟨r, 0, none⟩)] #[], .func (.func 46) #[.pointer (some ⟨r, 0, none⟩)] #[], .func (.func 47) #[.pointer (some ⟨r, 0, none⟩)] #[], .func (.func 48) #[.pointer (some ⟨r, 0, none⟩)] #[], .func (.func 49) #[.pointer (some ⟨r, 0, none⟩)] #[]] := ⟨_, rfl⟩
  have HF := Lib.hid hfs
  clear hfs
  go_wp2_with (refine wpList_store_new rfl 78 _ _ rfl fs (by rfl) (by rw [HF.out]; rfl) (by rw [HF.out]; rfl) (by rw [HF.out]; exact ways_size) (by rw [HF.out]; simp [Value.oneCell']) ?_; intro w2 hB2 hb2; have HB2 := Lib.hid hB2; have hW2 := HB1.out.trans (hb2.mono HB1.out.size); have HW2 := Lib.hid hW2; clear hB2 hb2 hW2)
  refine (HME.out _ HW2.out).mono ?_
  rintro e w3 ⟨rfl, hb3⟩
  have HB3 := Lib.hid hb3
  have HW3 := Lib.hid (HW2.out.trans (hb3.mono HW2.out.size))
  have q0 := HC0.out _ HW3.out
  have qf : w3.cell? ⟨w1.heap.size, 1, none⟩ = some (.func (.func 45) #[.pointer (some ⟨r, 0, none⟩)] #[]) := by rw [(HB2.out.keep HB3.out).cell, HF.out]; rfl
  have H3 := Lib.hid (HR.out.keep HW3.out)
  have hl1 : w1.heap.size < w3.heap.size := (HB2.out.keep HB3.out).lt
  clear hb3
  go_wp2_with fail
  refine (HMM.out _ _ H3.out rfl).mono ?_
  rintro e w4 ⟨rfl, φ4, a4, m4, h4, e4⟩
  have H4 := Lib.hid h4
  have HE4 := Lib.hid e4
  clear h4 e4
  go_wp2
  go_end0
  exact ⟨rfl, _, _, _, H4.out, HE4.out⟩

set_option maxHeartbeats 4000000 in
theorem step_hold {who0 : Int} (h : RunW w0 w r φ a m pw pm pv who0) {k : Nat} {t : Tx} (hk : m.T[k]? = some t) {pl : List (List (List Ac))} (hpl : PlV w0 pv pl) {txs : List (List Ac)} (htxs : pl[k]? = some txs) (x : Nat) (htx : t.tx = (x : Int)) (hx : x < txs.length) (hst : t.st = 2) {mm : Mm}
    (HM : ∀ W a', RunW w0 W r φ a m pw pm pv (k : Int) → a' = a → Calls Try.prog 46 #[.pointer (some ⟨r, 0, none⟩)] W (DonePost w0 r a mm k pw pm pv)) :
    Calls Try.prog 24 #[.pointer (some ⟨r, 0, none⟩), .int .i64 (k : Int)] w (StepPost w0 r mm pw pm pv (k : Int)) := by
  have hpw := hpl.below (h.setWho (k : Int)).base
  obtain ⟨b1, o1, c1, A1, d1, e1, hb1, hm1, hc1, hT1⟩ := hpw.at_ htxs
  have HR := Lib.hid (h.setWho (k : Int))
  have HK := Lib.hid hk
  have c10 : w.cell? ⟨r, 10, none⟩ = some (.int .i64 who0) := h.rcells 10
  have f10 := h.run.free 10
  have hlt := h.tlt hk
  have hkp : k < pl.length := (List.getElem?_eq_some_iff.1 htxs).1
  obtain ⟨n1, hn1⟩ : ∃ n, n = pl.length := ⟨_, rfl⟩
  obtain ⟨n2, hn2⟩ : ∃ n, n = txs.length := ⟨_, rfl⟩
  obtain ⟨n, hn⟩ : ∃ n, n = m.T.length := ⟨_, rfl⟩
  rw [← hn1] at e1
  rw [← hn2] at hc1
  have HC := Lib.hid (fun W (hb : Below (w.setCell ⟨r, 10, none⟩ (.int .i64 (k : Int))).heap.size (w.setCell ⟨r, 10, none⟩ (.int .i64 (k : Int))) W) => (show W.cell? ⟨r, 4, none⟩ = some (.slice (some ⟨a.gT, 0, none⟩) n a.cT) ∧ W.cell? ⟨r, 9, none⟩ = some (.slice (some ⟨b1, o1, none⟩) n1 c1) ∧ W.cell? ⟨b1, o1 + k, none⟩ = some (.slice A1 n2 d1) ∧ W.cell? ⟨a.gT, k * 11 + 1, none⟩ = some (.int .i64 (x : Int)) from
    ⟨by rw [hn]; exact (HR.out.keep hb).rcells 4, by rw [← e1]; exact (HR.out.keep hb).rcells 9, (hb.cell (p := ⟨b1, o1 + k, none⟩) hb1).trans hc1, by rw [← htx]; exact (HR.out.keep hb).tcells HK.out (j := 1) rfl⟩))
  have HME := Lib.hid (fun W (hb : Below (w.setCell ⟨r, 10, none⟩ (.int .i64 (k : Int))).heap.size (w.setCell ⟨r, 10, none⟩ (.int .i64 (k : Int))) W) => me_any (HR.out.keep hb) HK.out)
  have hk0 : (0 : Int) ≤ (k : Int) := by omega
  have hk0' : ¬ (k : Int) < 0 := by omega
  have hk1 : (k : Int) < (n1 : Int) := by omega
  have hkn : ¬ (n : Int) ≤ (k : Int) := by omega
  have hx0 : (0 : Int) ≤ (x : Int) := by omega
  have hxz : ¬ (n2 : Int) ≤ (x : Int) := by omega
  have HMM := Lib.hid HM
  have HC0 := Lib.hid (fun W (hb : Below (w.setCell ⟨r, 10, none⟩ (.int .i64 (k : Int))).heap.size (w.setCell ⟨r, 10, none⟩ (.int .i64 (k : Int))) W) => (show W.cell? ⟨a.gT, k * 11, none⟩ = some (.int .i64 2) from by have e := (HR.out.keep hb).tcells HK.out (j := 0) rfl; rw [hst] at e; simpa using e))
  have hTl : a.gT < (w.setCell ⟨r, 10, none⟩ (.int .i64 (k : Int))).heap.size := HR.out.apart.2.2.2.1
  clear h hk hpl htxs htx hpw hb1 hm1 hc1 hT1 e1 hn1 hn2 hn hkp hlt hx hst HM
  go_enter Try.func24, Try.ntmps24
  go_wp2_with fail
  refine wp_region_held_drew (S := fun W => W.cell? ⟨r, 4, none⟩ = some (.slice (some ⟨a.gT, 0, none⟩) n a.cT) ∧ W.cell? ⟨r, 9, none⟩ = some (.slice (some ⟨b1, o1, none⟩) n1 c1) ∧ W.cell? ⟨b1, o1 + k, none⟩ = some (.slice A1 n2 d1) ∧ W.cell? ⟨a.gT, k * 11 + 1, none⟩ = some (.int .i64 (x : Int))) (by kernel_rfl) ?_ (fun hHeldgr => ?_)
  · exact HC.out _ (Below.refl _ _).drew
  refine wpAnyH_take (i := 0) (oi := { dst := some 9, op := Op.move (Operand.tmp 1), type := 3, pos := "stm.go:204", after := _, guard := none }) (v := ?vgr0) rfl (by kernel_rfl) (by kernel_rfl) (by kernel_rfl) (fun _ _ _ h => h) (Or.inl ⟨by rfl, ?hygr0⟩) (by assumption) ?restgr0
  case hygr0 => (intro w hSw; (try dsimp only at hSw); go_simp <;> with_reducible rfl)
  try simp only [Act.put, List.setIfInBounds_toArray, List.set_cons_zero, List.set_cons_succ]
  refine wpAnyH_take (i := 1) (oi := { dst := some 10, op := Op.binOp BinOp.lss 3 (Operand.tmp 9) (Operand.const (Value.int IntKind.i64 0)) 3, type := 4, pos := "stm.go:204", after := _, guard := none }) (v := .bool false) rfl (by kernel_rfl) (by kernel_rfl) (by kernel_rfl) (fun _ _ _ h => h) (Or.inl ⟨by rfl, ?hygr1⟩) (by assumption) ?restgr1
  case hygr1 => (intro w hSw; (try dsimp only at hSw); go_simp <;> first | done | with_reducible rfl | omega | (simp; done) | (simp; omega) | (simp [*]; done) | (simp [*]; omega) | exact decide_eq_false (by omega) | exact decide_eq_true (by omega))
  try simp only [Act.put, List.setIfInBounds_toArray, List.set_cons_zero, List.set_cons_succ]
  refine wpAnyH_take (i := 2) (oi := { dst := some 11, op := Op.move (Operand.tmp 10), type := 4, pos := "stm.go:204", after := _, guard := none }) (v := ?vgr2) rfl (by kernel_rfl) (by kernel_rfl) (by kernel_rfl) (fun _ _ _ h => h) (Or.inl ⟨by rfl, ?hygr2⟩) (by assumption) ?restgr2
  case hygr2 => (intro w hSw; (try dsimp only at hSw); go_simp <;> with_reducible rfl)
  try simp only [Act.put, List.setIfInBounds_toArray, List.set_cons_zero, List.set_cons_succ]
  refine wpAnyH_take (i := 3) (oi := { dst := some 12, op := Op.move (Operand.tmp 1), type := 3, pos := "stm.go:204", after := _, guard := some (2, false) }) (v := ?vgr3) rfl (by kernel_rfl) (by kernel_rfl) (by kernel_rfl) (fun _ _ _ h => h) (Or.inl ⟨by rfl, ?hygr3⟩) (by assumption) ?restgr3
  case hygr3 => (intro w hSw; (try dsimp only at hSw); go_simp <;> with_reducible rfl)
  try simp only [Act.put, List.setIfInBounds_toArray, List.set_cons_zero, List.set_cons_succ]
  refine wpAnyH_take (i := 4) (oi := { dst := some 13, op := Op.move (Operand.tmp 0), type := 58, pos := "stm.go:204", after := _, guard := some (2, false) }) (v := ?vgr4) rfl (by kernel_rfl) (by kernel_rfl) (by kernel_rfl) (fun _ _ _ h => h) (Or.inl ⟨by rfl, ?hygr4⟩) (by assumption) ?restgr4
  case hygr4 => (intro w hSw; (try dsimp only at hSw); go_simp <;> with_reducible rfl)
  try simp only [Act.put, List.setIfInBounds_toArray, List.set_cons_zero, List.set_cons_succ]
  refine wpAnyH_take (i := 5) (oi := { dst := some 14, op := Op.nilCheck (Operand.tmp 13), type := 0, pos := "stm.go:204", after := _, guard := some (2, false) }) (v := ?vgr5) rfl (by kernel_rfl) (by kernel_rfl) (by kernel_rfl) (fun _ _ _ h => h) (Or.inl ⟨by rfl, ?hygr5⟩) (by assumption) ?restgr5
  case hygr5 => (intro w hSw; (try dsimp only at hSw); go_simp <;> with_reducible rfl)
  try simp only [Act.put, List.setIfInBounds_toArray, List.set_cons_zero, List.set_cons_succ]
  refine wpAnyH_take (i := 6) (oi := { dst := some 15, op := Op.fieldAddr 60 (Operand.tmp 14) 0, type := 0, pos := "stm.go:204", after := _, guard := some (2, false) }) (v := ?vgr6) rfl (by kernel_rfl) (by kernel_rfl) (by kernel_rfl) (fun _ _ _ h => h) (Or.inl ⟨by rfl, ?hygr6⟩) (by assumption) ?restgr6
  case hygr6 => (intro w hSw; (try dsimp only at hSw); go_simp <;> with_reducible rfl)
  try simp only [Act.put, List.setIfInBounds_toArray, List.set_cons_zero, List.set_cons_succ]
  refine wpAnyH_take (i := 7) (oi := { dst := some 16, op := Op.fieldAddr 34 (Operand.tmp 15) 2, type := 0, pos := "stm.go:204", after := _, guard := some (2, false) }) (v := ?vgr7) rfl (by kernel_rfl) (by kernel_rfl) (by kernel_rfl) (fun _ _ _ h => h) (Or.inl ⟨by rfl, ?hygr7⟩) (by assumption) ?restgr7
  case hygr7 => (intro w hSw; (try dsimp only at hSw); go_simp <;> with_reducible rfl)
  try simp only [Act.put, List.setIfInBounds_toArray, List.set_cons_zero, List.set_cons_succ]
  refine wpAnyH_take (i := 8) (oi := { dst := some 17, op := Op.load 31 (Operand.tmp 16), type := 31, pos := "stm.go:204", after := _, guard := some (2, false) }) (v := ?vgr8) rfl (by kernel_rfl) (by kernel_rfl) (by kernel_rfl) (fun _ _ _ h => h) (Or.inl ⟨by rfl, ?hygr8⟩) (by assumption) ?restgr8
  case hygr8 => (intro w hSw; (try dsimp only at hSw); go_simp <;> with_reducible rfl)
  try simp only [Act.put, List.setIfInBounds_toArray, List.set_cons_zero, List.set_cons_succ]
  refine wpAnyH_take (i := 9) (oi := { dst := some 18, op := Op.call { callee := Callee.builtin Builtin.len, args := #[Operand.tmp 17], argTypes := #[31] }, type := 3, pos := "stm.go:204", after := _, guard := some (2, false) }) (v := ?vgr9) rfl (by kernel_rfl) (by kernel_rfl) (by kernel_rfl) (fun _ _ _ h => h) (Or.inl ⟨by rfl, ?hygr9⟩) (by assumption) ?restgr9
  case hygr9 => (intro w hSw; (try dsimp only at hSw); go_simp <;> with_reducible rfl)
  try simp only [Act.put, List.setIfInBounds_toArray, List.set_cons_zero, List.set_cons_succ]
  refine wpAnyH_take (i := 10) (oi := { dst := some 19, op := Op.binOp BinOp.geq 3 (Operand.tmp 12) (Operand.tmp 18) 3, type := 4, pos := "stm.go:204", after := _, guard := some (2, false) }) (v := .bool false) rfl (by kernel_rfl) (by kernel_rfl) (by kernel_rfl) (fun _ _ _ h => h) (Or.inl ⟨by rfl, ?hygr10⟩) (by assumption) ?restgr10
  case hygr10 => (intro w hSw; (try dsimp only at hSw); go_simp <;> first | done | with_reducible rfl | omega | (simp; done) | (simp; omega) | (simp [*]; done) | (simp [*]; omega) | exact decide_eq_false (by omega) | exact decide_eq_true (by omega))
  try simp only [Act.put, List.setIfInBounds_toArray, List.set_cons_zero, List.set_cons_succ]
  refine wpAnyH_take (i := 11) (oi := { dst := some 20, op := Op.pick (Operand.tmp 11) (Operand.const (Value.bool true)) (Operand.tmp 19), type := 4, pos := "stm.go:204", after := _, guard := none }) (v := ?vgr11) rfl (by kernel_rfl) (by kernel_rfl) (by kernel_rfl) (fun _ _ _ h => h) (Or.inl ⟨by rfl, ?hygr11⟩) (by assumption) ?restgr11
  case hygr11 => (intro w hSw; (try dsimp only at hSw); go_simp <;> with_reducible rfl)
  try simp only [Act.put, List.setIfInBounds_toArray, List.set_cons_zero, List.set_cons_succ]
  refine wpAnyH_take (i := 12) (oi := { dst := some 21, op := Op.move (Operand.tmp 20), type := 4, pos := "stm.go:204", after := _, guard := none }) (v := ?vgr12) rfl (by kernel_rfl) (by kernel_rfl) (by kernel_rfl) (fun _ _ _ h => h) (Or.inl ⟨by rfl, ?hygr12⟩) (by assumption) ?restgr12
  case hygr12 => (intro w hSw; (try dsimp only at hSw); go_simp <;> with_reducible rfl)
  try simp only [Act.put, List.setIfInBounds_toArray, List.set_cons_zero, List.set_cons_succ]
  refine wpAnyH_take (i := 13) (oi := { dst := some 22, op := Op.move (Operand.tmp 0), type := 58, pos := "stm.go:204", after := _, guard := some (12, false) }) (v := ?vgr13) rfl (by kernel_rfl) (by kernel_rfl) (by kernel_rfl) (fun _ _ _ h => h) (Or.inl ⟨by rfl, ?hygr13⟩) (by assumption) ?restgr13
  case hygr13 => (intro w hSw; (try dsimp only at hSw); go_simp <;> with_reducible rfl)
  try simp only [Act.put, List.setIfInBounds_toArray, List.set_cons_zero, List.set_cons_succ]
  refine wpAnyH_take (i := 18) (oi := { dst := some 27, op := Op.move (Operand.tmp 0), type := 58, pos := "stm.go:204", after := _, guard := some (12, false) }) (v := ?vgr18) rfl (by kernel_rfl) (by kernel_rfl) (by kernel_rfl) (fun _ _ _ h => h) (Or.inl ⟨by rfl, ?hygr18⟩) (by assumption) ?restgr18
  case hygr18 => (intro w hSw; (try dsimp only at hSw); go_simp <;> with_reducible rfl)
  try simp only [Act.put, List.setIfInBounds_toArray, List.set_cons_zero, List.set_cons_succ]
  refine wpAnyH_take (i := 19) (oi := { dst := some 28, op := Op.nilCheck (Operand.tmp 27), type := 0, pos := "stm.go:204", after := _, guard := some (12, false) }) (v := ?vgr19) rfl (by kernel_rfl) (by kernel_rfl) (by kernel_rfl) (fun _ _ _ h => h) (Or.inl ⟨by rfl, ?hygr19⟩) (by assumption) ?restgr19
  case hygr19 => (intro w hSw; (try dsimp only at hSw); go_simp <;> with_reducible rfl)
  try simp only [Act.put, List.setIfInBounds_toArray, List.set_cons_zero, List.set_cons_succ]
  refine wpAnyH_take (i := 20) (oi := { dst := some 29, op := Op.fieldAddr 60 (Operand.tmp 28) 1, type := 0, pos := "stm.go:204", after := _, guard := some (12, false) }) (v := ?vgr20) rfl (by kernel_rfl) (by kernel_rfl) (by kernel_rfl) (fun _ _ _ h => h) (Or.inl ⟨by rfl, ?hygr20⟩) (by assumption) ?restgr20
  case hygr20 => (intro w hSw; (try dsimp only at hSw); go_simp <;> with_reducible rfl)
  try simp only [Act.put, List.setIfInBounds_toArray, List.set_cons_zero, List.set_cons_succ]
  refine wpAnyH_take (i := 21) (oi := { dst := some 30, op := Op.fieldAddr 24 (Operand.tmp 29) 2, type := 0, pos := "stm.go:204", after := _, guard := some (12, false) }) (v := ?vgr21) rfl (by kernel_rfl) (by kernel_rfl) (by kernel_rfl) (fun _ _ _ h => h) (Or.inl ⟨by rfl, ?hygr21⟩) (by assumption) ?restgr21
  case hygr21 => (intro w hSw; (try dsimp only at hSw); go_simp <;> with_reducible rfl)
  try simp only [Act.put, List.setIfInBounds_toArray, List.set_cons_zero, List.set_cons_succ]
  refine wpAnyH_take (i := 22) (oi := { dst := some 31, op := Op.load 22 (Operand.tmp 30), type := 22, pos := "stm.go:204", after := _, guard := some (12, false) }) (v := ?vgr22) rfl (by kernel_rfl) (by kernel_rfl) (by kernel_rfl) (fun _ _ _ h => h) (Or.inl ⟨by rfl, ?hygr22⟩) (by assumption) ?restgr22
  case hygr22 => (intro w hSw; (try dsimp only at hSw); go_simp <;> with_reducible rfl)
  try simp only [Act.put, List.setIfInBounds_toArray, List.set_cons_zero, List.set_cons_succ]
  refine wpAnyH_take (i := 23) (oi := { dst := some 32, op := Op.move (Operand.tmp 1), type := 3, pos := "stm.go:204", after := _, guard := some (12, false) }) (v := ?vgr23) rfl (by kernel_rfl) (by kernel_rfl) (by kernel_rfl) (fun _ _ _ h => h) (Or.inl ⟨by rfl, ?hygr23⟩) (by assumption) ?restgr23
  case hygr23 => (intro w hSw; (try dsimp only at hSw); go_simp <;> with_reducible rfl)
  try simp only [Act.put, List.setIfInBounds_toArray, List.set_cons_zero, List.set_cons_succ]
  refine wpAnyH_take (i := 24) (oi := { dst := some 33, op := Op.indexAddr 22 (Operand.tmp 31) (Operand.tmp 32), type := 0, pos := "stm.go:204", after := _, guard := some (12, false) }) (v := ?vgr24) rfl (by kernel_rfl) (by kernel_rfl) (by kernel_rfl) (fun _ _ _ h => h) (Or.inl ⟨by rfl, ?hygr24⟩) (by assumption) ?restgr24
  case hygr24 => (intro w hSw; (try dsimp only at hSw); go_simp <;> with_reducible rfl)
  try simp only [Act.put, List.setIfInBounds_toArray, List.set_cons_zero, List.set_cons_succ]
  refine wpAnyH_take (i := 25) (oi := { dst := some 34, op := Op.load 47 (Operand.tmp 33), type := 47, pos := "stm.go:204", after := _, guard := some (12, false) }) (v := ?vgr25) rfl (by kernel_rfl) (by kernel_rfl) (by kernel_rfl) (fun _ _ _ h => h) (Or.inl ⟨by rfl, ?hygr25⟩) (by assumption) ?restgr25
  case hygr25 => (intro w hSw; (try dsimp only at hSw); go_simp <;> with_reducible rfl)
  try simp only [Act.put, List.setIfInBounds_toArray, List.set_cons_zero, List.set_cons_succ]
  refine wpAnyH_take (i := 26) (oi := { dst := some 35, op := Op.call { callee := Callee.builtin Builtin.len, args := #[Operand.tmp 34], argTypes := #[47] }, type := 3, pos := "stm.go:204", after := _, guard := some (12, false) }) (v := ?vgr26) rfl (by kernel_rfl) (by kernel_rfl) (by kernel_rfl) (fun _ _ _ h => h) (Or.inl ⟨by rfl, ?hygr26⟩) (by assumption) ?restgr26
  case hygr26 => (intro w hSw; (try dsimp only at hSw); go_simp <;> with_reducible rfl)
  try simp only [Act.put, List.setIfInBounds_toArray, List.set_cons_zero, List.set_cons_succ]
  refine wpAnyH_ready (rs := [14]) (by kernel_rfl) (by simp) ?_
  refine AllReadyH.cons (o := { dst := some 23, op := Op.call { callee := Callee.value (Operand.func 43), args := #[Operand.tmp 22], argTypes := #[58] }, type := 76, pos := "stm.go:204", after := _, guard := some (12, false) }) rfl (fun K hK => ?_) AllReadyH.nil
  go_simp
  refine (HME.out _ (Below.refl _ _).drew).mono ?_
  rintro e w1 ⟨rfl, hb1'⟩
  have HB1 := Lib.hid ((Below.refl _ _).drew.trans hb1')
  clear hb1'
  try go_wp2_with fail
  refine hK.out _ _ ?_ (fun hHeldgr14 => ?_)
  · exact HC.out _ HB1.out
  clear hK K hHeldgr
  try simp only [Act.put, List.setIfInBounds_toArray, List.set_cons_zero, List.set_cons_succ]
  refine wpAnyH_take (i := 15) (oi := { dst := some 24, op := Op.nilCheck (Operand.tmp 23), type := 0, pos := "stm.go:204", after := _, guard := some (12, false) }) (v := ?vgr15) rfl (by kernel_rfl) (by kernel_rfl) (by kernel_rfl) (fun _ _ _ h => h) (Or.inl ⟨by rfl, ?hygr15⟩) (by assumption) ?restgr15
  case hygr15 => (intro w hSw; (try dsimp only at hSw); go_simp <;> with_reducible rfl)
  try simp only [Act.put, List.setIfInBounds_toArray, List.set_cons_zero, List.set_cons_succ]
  refine wpAnyH_take (i := 16) (oi := { dst := some 25, op := Op.fieldAddr 46 (Operand.tmp 24) 1, type := 0, pos := "stm.go:204", after := _, guard := some (12, false) }) (v := ?vgr16) rfl (by kernel_rfl) (by kernel_rfl) (by kernel_rfl) (fun _ _ _ h => h) (Or.inl ⟨by rfl, ?hygr16⟩) (by assumption) ?restgr16
  case hygr16 => (intro w hSw; (try dsimp only at hSw); go_simp <;> with_reducible rfl)
  try simp only [Act.put, List.setIfInBounds_toArray, List.set_cons_zero, List.set_cons_succ]
  refine wpAnyH_take (i := 17) (oi := { dst := some 26, op := Op.load 3 (Operand.tmp 25), type := 3, pos := "stm.go:204", after := _, guard := some (12, false) }) (v := ?vgr17) rfl (by kernel_rfl) (by kernel_rfl) (by kernel_rfl) (fun _ _ _ h => h) (Or.inl ⟨by rfl, ?hygr17⟩) (by assumption) ?restgr17
  case hygr17 => (intro w hSw; (try dsimp only at hSw); go_simp <;> with_reducible rfl)
  try simp only [Act.put, List.setIfInBounds_toArray, List.set_cons_zero, List.set_cons_succ]
  refine wpAnyH_take (i := 27) (oi := { dst := some 36, op := Op.binOp BinOp.geq 3 (Operand.tmp 26) (Operand.tmp 35) 3, type := 4, pos := "stm.go:204", after := _, guard := some (12, false) }) (v := .bool false) rfl (by kernel_rfl) (by kernel_rfl) (by kernel_rfl) (fun _ _ _ h => h) (Or.inl ⟨by rfl, ?hygr27⟩) (by assumption) ?restgr27
  case hygr27 => (intro w hSw; (try dsimp only at hSw); go_simp <;> first | done | with_reducible rfl | omega | (simp; done) | (simp; omega) | (simp [*]; done) | (simp [*]; omega) | exact decide_eq_false (by omega) | exact decide_eq_true (by omega))
  try simp only [Act.put, List.setIfInBounds_toArray, List.set_cons_zero, List.set_cons_succ]
  refine wpAnyH_take (i := 28) (oi := { dst := some 37, op := Op.pick (Operand.tmp 21) (Operand.const (Value.bool true)) (Operand.tmp 36), type := 4, pos := "stm.go:204", after := _, guard := none }) (v := ?vgr28) rfl (by kernel_rfl) (by kernel_rfl) (by kernel_rfl) (fun _ _ _ h => h) (Or.inl ⟨by rfl, ?hygr28⟩) (by assumption) ?restgr28
  case hygr28 => (intro w hSw; (try dsimp only at hSw); go_simp <;> with_reducible rfl)
  try simp only [Act.put, List.setIfInBounds_toArray, List.set_cons_zero, List.set_cons_succ]
  refine wpAnyH_done (by kernel_rfl) ?_ _

  obtain ⟨fs, hfs⟩ : ∃ fs : Array Value, fs = #[.func (.func 44) #[.pointer (some ⟨r, 0, none⟩)] #[], .func (.func 45) #[.pointer (some ⟨r, 0, none⟩)] #[], .func (.func 46) #[.pointer (some ⟨r, 0, none⟩)] #[], .func (.func 47) #[.pointer (some ⟨r, 0, none⟩)] #[], .func (.func 48) #[.pointer (some ⟨r, 0, none⟩)] #[], .func (.func 49) #[.pointer (some ⟨r, 0, none⟩)] #[]] := ⟨_, rfl⟩
  have HF := Lib.hid hfs
  clear hfs
  go_wp2_with (refine wpList_store_new rfl 78 _ _ rfl fs (by rfl) (by rw [HF.out]; rfl) (by rw [HF.out]; rfl) (by rw [HF.out]; exact ways_size) (by rw [HF.out]; simp [Value.oneCell']) ?_; intro w2 hB2 hb2; have HB2 := Lib.hid hB2; have hW2 := HB1.out.trans (hb2.mono HB1.out.size); have HW2 := Lib.hid hW2; clear hB2 hb2 hW2)
  refine (HME.out _ HW2.out).mono ?_
  rintro e w3 ⟨rfl, hb3⟩
  have HB3 := Lib.hid hb3
  have HW3 := Lib.hid (HW2.out.trans (hb3.mono HW2.out.size))
  have q0 := HC0.out _ HW3.out
  have qf : w3.cell? ⟨w1.heap.size, 2, none⟩ = some (.func (.func 46) #[.pointer (some ⟨r, 0, none⟩)] #[]) := by rw [(HB2.out.keep HB3.out).cell, HF.out]; rfl
  have H3 := Lib.hid (HR.out.keep HW3.out)
  have hl1 : w1.heap.size < w3.heap.size := (HB2.out.keep HB3.out).lt
  clear hb3
  go_wp2_with fail
  refine (HMM.out _ _ H3.out rfl).mono ?_
  rintro e w4 ⟨rfl, φ4, a4, m4, h4, e4⟩
  have H4 := Lib.hid h4
  have HE4 := Lib.hid e4
  clear h4 e4
  go_wp2
  go_end0
  exact ⟨rfl, _, _, _, H4.out, HE4.out⟩

set_option maxHeartbeats 4000000 in
theorem step_tick {who0 : Int} (h : RunW w0 w r φ a m pw pm pv who0) {k : Nat} {t : Tx} (hk : m.T[k]? = some t) {pl : List (List (List Ac))} (hpl : PlV w0 pv pl) {txs : List (List Ac)} (htxs : pl[k]? = some txs) (x : Nat) (htx : t.tx = (x : Int)) (hx : x < txs.length) (hst : t.st = 3) {mm : Mm}
    (HM : ∀ W a', RunW w0 W r φ a m pw pm pv (k : Int) → a' = a → Calls Try.prog 47 #[.pointer (some ⟨r, 0, none⟩)] W (DonePost w0 r a mm k pw pm pv)) :
    Calls Try.prog 24 #[.pointer (some ⟨r, 0, none⟩), .int .i64 (k : Int)] w (StepPost w0 r mm pw pm pv (k : Int)) := by
  have hpw := hpl.below (h.setWho (k : Int)).base
  obtain ⟨b1, o1, c1, A1, d1, e1, hb1, hm1, hc1, hT1⟩ := hpw.at_ htxs
  have HR := Lib.hid (h.setWho (k : Int))
  have HK := Lib.hid hk
  have c10 : w.cell? ⟨r, 10, none⟩ = some (.int .i64 who0) := h.rcells 10
  have f10 := h.run.free 10
  have hlt := h.tlt hk
  have hkp : k < pl.length := (List.getElem?_eq_some_iff.1 htxs).1
  obtain ⟨n1, hn1⟩ : ∃ n, n = pl.length := ⟨_, rfl⟩
  obtain ⟨n2, hn2⟩ : ∃ n, n = txs.length := ⟨_, rfl⟩
  obtain ⟨n, hn⟩ : ∃ n, n = m.T.length := ⟨_, rfl⟩
  rw [← hn1] at e1
  rw [← hn2] at hc1
  have HC := Lib.hid (fun W (hb : Below (w.setCell ⟨r, 10, none⟩ (.int .i64 (k : Int))).heap.size (w.setCell ⟨r, 10, none⟩ (.int .i64 (k : Int))) W) => (show W.cell? ⟨r, 4, none⟩ = some (.slice (some ⟨a.gT, 0, none⟩) n a.cT) ∧ W.cell? ⟨r, 9, none⟩ = some (.slice (some ⟨b1, o1, none⟩) n1 c1) ∧ W.cell? ⟨b1, o1 + k, none⟩ = some (.slice A1 n2 d1) ∧ W.cell? ⟨a.gT, k * 11 + 1, none⟩ = some (.int .i64 (x : Int)) from
    ⟨by rw [hn]; exact (HR.out.keep hb).rcells 4, by rw [← e1]; exact (HR.out.keep hb).rcells 9, (hb.cell (p := ⟨b1, o1 + k, none⟩) hb1).trans hc1, by rw [← htx]; exact (HR.out.keep hb).tcells HK.out (j := 1) rfl⟩))
  have HME := Lib.hid (fun W (hb : Below (w.setCell ⟨r, 10, none⟩ (.int .i64 (k : Int))).heap.size (w.setCell ⟨r, 10, none⟩ (.int .i64 (k : Int))) W) => me_any (HR.out.keep hb) HK.out)
  have hk0 : (0 : Int) ≤ (k : Int) := by omega
  have hk0' : ¬ (k : Int) < 0 := by omega
  have hk1 : (k : Int) < (n1 : Int) := by omega
  have hkn : ¬ (n : Int) ≤ (k : Int) := by omega
  have hx0 : (0 : Int) ≤ (x : Int) := by omega
  have hxz : ¬ (n2 : Int) ≤ (x : Int) := by omega
  have HMM := Lib.hid HM
  have HC0 := Lib.hid (fun W (hb : Below (w.setCell ⟨r, 10, none⟩ (.int .i64 (k : Int))).heap.size (w.setCell ⟨r, 10, none⟩ (.int .i64 (k : Int))) W) => (show W.cell? ⟨a.gT, k * 11, none⟩ = some (.int .i64 3) from by have e := (HR.out.keep hb).tcells HK.out (j := 0) rfl; rw [hst] at e; simpa using e))
  have hTl : a.gT < (w.setCell ⟨r, 10, none⟩ (.int .i64 (k : Int))).heap.size := HR.out.apart.2.2.2.1
  clear h hk hpl htxs htx hpw hb1 hm1 hc1 hT1 e1 hn1 hn2 hn hkp hlt hx hst HM
  go_enter Try.func24, Try.ntmps24
  go_wp2_with fail
  refine wp_region_held_drew (S := fun W => W.cell? ⟨r, 4, none⟩ = some (.slice (some ⟨a.gT, 0, none⟩) n a.cT) ∧ W.cell? ⟨r, 9, none⟩ = some (.slice (some ⟨b1, o1, none⟩) n1 c1) ∧ W.cell? ⟨b1, o1 + k, none⟩ = some (.slice A1 n2 d1) ∧ W.cell? ⟨a.gT, k * 11 + 1, none⟩ = some (.int .i64 (x : Int))) (by kernel_rfl) ?_ (fun hHeldhr => ?_)
  · exact HC.out _ (Below.refl _ _).drew
  refine wpAnyH_take (i := 0) (oi := { dst := some 9, op := Op.move (Operand.tmp 1), type := 3, pos := "stm.go:204", after := _, guard := none }) (v := ?vhr0) rfl (by kernel_rfl) (by kernel_rfl) (by kernel_rfl) (fun _ _ _ h => h) (Or.inl ⟨by rfl, ?hyhr0⟩) (by assumption) ?resthr0
  case hyhr0 => (intro w hSw; (try dsimp only at hSw); go_simp <;> with_reducible rfl)
  try simp only [Act.put, List.setIfInBounds_toArray, List.set_cons_zero, List.set_cons_succ]
  refine wpAnyH_take (i := 1) (oi := { dst := some 10, op := Op.binOp BinOp.lss 3 (Operand.tmp 9) (Operand.const (Value.int IntKind.i64 0)) 3, type := 4, pos := "stm.go:204", after := _, guard := none }) (v := .bool false) rfl (by kernel_rfl) (by kernel_rfl) (by kernel_rfl) (fun _ _ _ h => h) (Or.inl ⟨by rfl, ?hyhr1⟩) (by assumption) ?resthr1
  case hyhr1 => (intro w hSw; (try dsimp only at hSw); go_simp <;> first | done | with_reducible rfl | omega | (simp; done) | (simp; omega) | (simp [*]; done) | (simp [*]; omega) | exact decide_eq_false (by omega) | exact decide_eq_true (by omega))
  try simp only [Act.put, List.setIfInBounds_toArray, List.set_cons_zero, List.set_cons_succ]
  refine wpAnyH_take (i := 2) (oi := { dst := some 11, op := Op.move (Operand.tmp 10), type := 4, pos := "stm.go:204", after := _, guard := none }) (v := ?vhr2) rfl (by kernel_rfl) (by kernel_rfl) (by kernel_rfl) (fun _ _ _ h => h) (Or.inl ⟨by rfl, ?hyhr2⟩) (by assumption) ?resthr2
  case hyhr2 => (intro w hSw; (try dsimp only at hSw); go_simp <;> with_reducible rfl)
  try simp only [Act.put, List.setIfInBounds_toArray, List.set_cons_zero, List.set_cons_succ]
  refine wpAnyH_take (i := 3) (oi := { dst := some 12, op := Op.move (Operand.tmp 1), type := 3, pos := "stm.go:204", after := _, guard := some (2, false) }) (v := ?vhr3) rfl (by kernel_rfl) (by kernel_rfl) (by kernel_rfl) (fun _ _ _ h => h) (Or.inl ⟨by rfl, ?hyhr3⟩) (by assumption) ?resthr3
  case hyhr3 => (intro w hSw; (try dsimp only at hSw); go_simp <;> with_reducible rfl)
  try simp only [Act.put, List.setIfInBounds_toArray, List.set_cons_zero, List.set_cons_succ]
  refine wpAnyH_take (i := 4) (oi := { dst := some 13, op := Op.move (Operand.tmp 0), type := 58, pos := "stm.go:204", after := _, guard := some (2, false) }) (v := ?vhr4) rfl (by kernel_rfl) (by kernel_rfl) (by kernel_rfl) (fun _ _ _ h => h) (Or.inl ⟨by rfl, ?hyhr4⟩) (by assumption) ?resthr4
  case hyhr4 => (intro w hSw; (try dsimp only at hSw); go_simp <;> with_reducible rfl)
  try simp only [Act.put, List.setIfInBounds_toArray, List.set_cons_zero, List.set_cons_succ]
  refine wpAnyH_take (i := 5) (oi := { dst := some 14, op := Op.nilCheck (Operand.tmp 13), type := 0, pos := "stm.go:204", after := _, guard := some (2, false) }) (v := ?vhr5) rfl (by kernel_rfl) (by kernel_rfl) (by kernel_rfl) (fun _ _ _ h => h) (Or.inl ⟨by rfl, ?hyhr5⟩) (by assumption) ?resthr5
  case hyhr5 => (intro w hSw; (try dsimp only at hSw); go_simp <;> with_reducible rfl)
  try simp only [Act.put, List.setIfInBounds_toArray, List.set_cons_zero, List.set_cons_succ]
  refine wpAnyH_take (i := 6) (oi := { dst := some 15, op := Op.fieldAddr 60 (Operand.tmp 14) 0, type := 0, pos := "stm.go:204", after := _, guard := some (2, false) }) (v := ?vhr6) rfl (by kernel_rfl) (by kernel_rfl) (by kernel_rfl) (fun _ _ _ h => h) (Or.inl ⟨by rfl, ?hyhr6⟩) (by assumption) ?resthr6
  case hyhr6 => (intro w hSw; (try dsimp only at hSw); go_simp <;> with_reducible rfl)
  try simp only [Act.put, List.setIfInBounds_toArray, List.set_cons_zero, List.set_cons_succ]
  refine wpAnyH_take (i := 7) (oi := { dst := some 16, op := Op.fieldAddr 34 (Operand.tmp 15) 2, type := 0, pos := "stm.go:204", after := _, guard := some (2, false) }) (v := ?vhr7) rfl (by kernel_rfl) (by kernel_rfl) (by kernel_rfl) (fun _ _ _ h => h) (Or.inl ⟨by rfl, ?hyhr7⟩) (by assumption) ?resthr7
  case hyhr7 => (intro w hSw; (try dsimp only at hSw); go_simp <;> with_reducible rfl)
  try simp only [Act.put, List.setIfInBounds_toArray, List.set_cons_zero, List.set_cons_succ]
  refine wpAnyH_take (i := 8) (oi := { dst := some 17, op := Op.load 31 (Operand.tmp 16), type := 31, pos := "stm.go:204", after := _, guard := some (2, false) }) (v := ?vhr8) rfl (by kernel_rfl) (by kernel_rfl) (by kernel_rfl) (fun _ _ _ h => h) (Or.inl ⟨by rfl, ?hyhr8⟩) (by assumption) ?resthr8
  case hyhr8 => (intro w hSw; (try dsimp only at hSw); go_simp <;> with_reducible rfl)
  try simp only [Act.put, List.setIfInBounds_toArray, List.set_cons_zero, List.set_cons_succ]
  refine wpAnyH_take (i := 9) (oi := { dst := some 18, op := Op.call { callee := Callee.builtin Builtin.len, args := #[Operand.tmp 17], argTypes := #[31] }, type := 3, pos := "stm.go:204", after := _, guard := some (2, false) }) (v := ?vhr9) rfl (by kernel_rfl) (by kernel_rfl) (by kernel_rfl) (fun _ _ _ h => h) (Or.inl ⟨by rfl, ?hyhr9⟩) (by assumption) ?resthr9
  case hyhr9 => (intro w hSw; (try dsimp only at hSw); go_simp <;> with_reducible rfl)
  try simp only [Act.put, List.setIfInBounds_toArray, List.set_cons_zero, List.set_cons_succ]
  refine wpAnyH_take (i := 10) (oi := { dst := some 19, op := Op.binOp BinOp.geq 3 (Operand.tmp 12) (Operand.tmp 18) 3, type := 4, pos := "stm.go:204", after := _, guard := some (2, false) }) (v := .bool false) rfl (by kernel_rfl) (by kernel_rfl) (by kernel_rfl) (fun _ _ _ h => h) (Or.inl ⟨by rfl, ?hyhr10⟩) (by assumption) ?resthr10
  case hyhr10 => (intro w hSw; (try dsimp only at hSw); go_simp <;> first | done | with_reducible rfl | omega | (simp; done) | (simp; omega) | (simp [*]; done) | (simp [*]; omega) | exact decide_eq_false (by omega) | exact decide_eq_true (by omega))
  try simp only [Act.put, List.setIfInBounds_toArray, List.set_cons_zero, List.set_cons_succ]
  refine wpAnyH_take (i := 11) (oi := { dst := some 20, op := Op.pick (Operand.tmp 11) (Operand.const (Value.bool true)) (Operand.tmp 19), type := 4, pos := "stm.go:204", after := _, guard := none }) (v := ?vhr11) rfl (by kernel_rfl) (by kernel_rfl) (by kernel_rfl) (fun _ _ _ h => h) (Or.inl ⟨by rfl, ?hyhr11⟩) (by assumption) ?resthr11
  case hyhr11 => (intro w hSw; (try dsimp only at hSw); go_simp <;> with_reducible rfl)
  try simp only [Act.put, List.setIfInBounds_toArray, List.set_cons_zero, List.set_cons_succ]
  refine wpAnyH_take (i := 12) (oi := { dst := some 21, op := Op.move (Operand.tmp 20), type := 4, pos := "stm.go:204", after := _, guard := none }) (v := ?vhr12) rfl (by kernel_rfl) (by kernel_rfl) (by kernel_rfl) (fun _ _ _ h => h) (Or.inl ⟨by rfl, ?hyhr12⟩) (by assumption) ?resthr12
  case hyhr12 => (intro w hSw; (try dsimp only at hSw); go_simp <;> with_reducible rfl)
  try simp only [Act.put, List.setIfInBounds_toArray, List.set_cons_zero, List.set_cons_succ]
  refine wpAnyH_take (i := 13) (oi := { dst := some 22, op := Op.move (Operand.tmp 0), type := 58, pos := "stm.go:204", after := _, guard := some (12, false) }) (v := ?vhr13) rfl (by kernel_rfl) (by kernel_rfl) (by kernel_rfl) (fun _ _ _ h => h) (Or.inl ⟨by rfl, ?hyhr13⟩) (by assumption) ?resthr13
  case hyhr13 => (intro w hSw; (try dsimp only at hSw); go_simp <;> with_reducible rfl)
  try simp only [Act.put, List.setIfInBounds_toArray, List.set_cons_zero, List.set_cons_succ]
  refine wpAnyH_take (i := 18) (oi := { dst := some 27, op := Op.move (Operand.tmp 0), type := 58, pos := "stm.go:204", after := _, guard := some (12, false) }) (v := ?vhr18) rfl (by kernel_rfl) (by kernel_rfl) (by kernel_rfl) (fun _ _ _ h => h) (Or.inl ⟨by rfl, ?hyhr18⟩) (by assumption) ?resthr18
  case hyhr18 => (intro w hSw; (try dsimp only at hSw); go_simp <;> with_reducible rfl)
  try simp only [Act.put, List.setIfInBounds_toArray, List.set_cons_zero, List.set_cons_succ]
  refine wpAnyH_take (i := 19) (oi := { dst := some 28, op := Op.nilCheck (Operand.tmp 27), type := 0, pos := "stm.go:204", after := _, guard := some (12, false) }) (v := ?vhr19) rfl (by kernel_rfl) (by kernel_rfl) (by kernel_rfl) (fun _ _ _ h => h) (Or.inl ⟨by rfl, ?hyhr19⟩) (by assumption) ?resthr19
  case hyhr19 => (intro w hSw; (try dsimp only at hSw); go_simp <;> with_reducible rfl)
  try simp only [Act.put, List.setIfInBounds_toArray, List.set_cons_zero, List.set_cons_succ]
  refine wpAnyH_take (i := 20) (oi := { dst := some 29, op := Op.fieldAddr 60 (Operand.tmp 28) 1, type := 0, pos := "stm.go:204", after := _, guard := some (12, false) }) (v := ?vhr20) rfl (by kernel_rfl) (by kernel_rfl) (by kernel_rfl) (fun _ _ _ h => h) (Or.inl ⟨by rfl, ?hyhr20⟩) (by assumption) ?resthr20
  case hyhr20 => (intro w hSw; (try dsimp only at hSw); go_simp <;> with_reducible rfl)
  try simp only [Act.put, List.setIfInBounds_toArray, List.set_cons_zero, List.set_cons_succ]
  refine wpAnyH_take (i := 21) (oi := { dst := some 30, op := Op.fieldAddr 24 (Operand.tmp 29) 2, type := 0, pos := "stm.go:204", after := _, guard := some (12, false) }) (v := ?vhr21) rfl (by kernel_rfl) (by kernel_rfl) (by kernel_rfl) (fun _ _ _ h => h) (Or.inl ⟨by rfl, ?hyhr21⟩) (by assumption) ?resthr21
  case hyhr21 => (intro w hSw; (try dsimp only at hSw); go_simp <;> with_reducible rfl)
  try simp only [Act.put, List.setIfInBounds_toArray, List.set_cons_zero, List.set_cons_succ]
  refine wpAnyH_take (i := 22) (oi := { dst := some 31, op := Op.load 22 (Operand.tmp 30), type := 22, pos := "stm.go:204", after := _, guard := some (12, false) }) (v := ?vhr22) rfl (by kernel_rfl) (by kernel_rfl) (by kernel_rfl) (fun _ _ _ h => h) (Or.inl ⟨by rfl, ?hyhr22⟩) (by assumption) ?resthr22
  case hyhr22 => (intro w hSw; (try dsimp only at hSw); go_simp <;> with_reducible rfl)
  try simp only [Act.put, List.setIfInBounds_toArray, List.set_cons_zero, List.set_cons_succ]
  refine wpAnyH_take (i := 23) (oi := { dst := some 32, op := Op.move (Operand.tmp 1), type := 3, pos := "stm.go:204", after := _, guard := some (12, false) }) (v := ?vhr23) rfl (by kernel_rfl) (by kernel_rfl) (by kernel_rfl) (fun _ _ _ h => h) (Or.inl ⟨by rfl, ?hyhr23⟩) (by assumption) ?resthr23
  case hyhr23 => (intro w hSw; (try dsimp only at hSw); go_simp <;> with_reducible rfl)
  try simp only [Act.put, List.setIfInBounds_toArray, List.set_cons_zero, List.set_cons_succ]
  refine wpAnyH_take (i := 24) (oi := { dst := some 33, op := Op.indexAddr 22 (Operand.tmp 31) (Operand.tmp 32), type := 0, pos := "stm.go:204", after := _, guard := some (12, false) }) (v := ?vhr24) rfl (by kernel_rfl) (by kernel_rfl) (by kernel_rfl) (fun _ _ _ h => h) (Or.inl ⟨by rfl, ?hyhr24⟩) (by assumption) ?resthr24
  case hyhr24 => (intro w hSw; (try dsimp only at hSw); go_simp <;> with_reducible rfl)
  try simp only [Act.put, List.setIfInBounds_toArray, List.set_cons_zero, List.set_cons_succ]
  refine wpAnyH_take (i := 25) (oi := { dst := some 34, op := Op.load 47 (Operand.tmp 33), type := 47, pos := "stm.go:204", after := _, guard := some (12, false) }) (v := ?vhr25) rfl (by kernel_rfl) (by kernel_rfl) (by kernel_rfl) (fun _ _ _ h => h) (Or.inl ⟨by rfl, ?hyhr25⟩) (by assumption) ?resthr25
  case hyhr25 => (intro w hSw; (try dsimp only at hSw); go_simp <;> with_reducible rfl)
  try simp only [Act.put, List.setIfInBounds_toArray, List.set_cons_zero, List.set_cons_succ]
  refine wpAnyH_take (i := 26) (oi := { dst := some 35, op := Op.call { callee := Callee.builtin Builtin.len, args := #[Operand.tmp 34], argTypes := #[47] }, type := 3, pos := "stm.go:204", after := _, guard := some (12, false) }) (v := ?vhr26) rfl (by kernel_rfl) (by kernel_rfl) (by kernel_rfl) (fun _ _ _ h => h) (Or.inl ⟨by rfl, ?hyhr26⟩) (by assumption) ?resthr26
  case hyhr26 => (intro w hSw; (try dsimp only at hSw); go_simp <;> with_reducible rfl)
  try simp only [Act.put, List.setIfInBounds_toArray, List.set_cons_zero, List.set_cons_succ]
  refine wpAnyH_ready (rs := [14]) (by kernel_rfl) (by simp) ?_
  refine AllReadyH.cons (o := { dst := some 23, op := Op.call { callee := Callee.value (Operand.func 43), args := #[Operand.tmp 22], argTypes := #[58] }, type := 76, pos := "stm.go:204", after := _, guard := some (12, false) }) rfl (fun K hK => ?_) AllReadyH.nil
  go_simp
  refine (HME.out _ (Below.refl _ _).drew).mono ?_
  rintro e w1 ⟨rfl, hb1'⟩
  have HB1 := Lib.hid ((Below.refl _ _).drew.trans hb1')
  clear hb1'
  try go_wp2_with fail
  refine hK.out _ _ ?_ (fun hHeldhr14 => ?_)
  · exact HC.out _ HB1.out
  clear hK K hHeldhr
  try simp only [Act.put, List.setIfInBounds_toArray, List.set_cons_zero, List.set_cons_succ]
  refine wpAnyH_take (i := 15) (oi := { dst := some 24, op := Op.nilCheck (Operand.tmp 23), type := 0, pos := "stm.go:204", after := _, guard := some (12, false) }) (v := ?vhr15) rfl (by kernel_rfl) (by kernel_rfl) (by kernel_rfl) (fun _ _ _ h => h) (Or.inl ⟨by rfl, ?hyhr15⟩) (by assumption) ?resthr15
  case hyhr15 => (intro w hSw; (try dsimp only at hSw); go_simp <;> with_reducible rfl)
  try simp only [Act.put, List.setIfInBounds_toArray, List.set_cons_zero, List.set_cons_succ]
  refine wpAnyH_take (i := 16) (oi := { dst := some 25, op := Op.fieldAddr 46 (Operand.tmp 24) 1, type := 0, pos := "stm.go:204", after := _, guard := some (12, false) }) (v := ?vhr16) rfl (by kernel_rfl) (by kernel_rfl) (by kernel_rfl) (fun _ _ _ h => h) (Or.inl ⟨by rfl, ?hyhr16⟩) (by assumption) ?resthr16
  case hyhr16 => (intro w hSw; (try dsimp only at hSw); go_simp <;> with_reducible rfl)
  try simp only [Act.put, List.setIfInBounds_toArray, List.set_cons_zero, List.set_cons_succ]
  refine wpAnyH_take (i := 17) (oi := { dst := some 26, op := Op.load 3 (Operand.tmp 25), type := 3, pos := "stm.go:204", after := _, guard := some (12, false) }) (v := ?vhr17) rfl (by kernel_rfl) (by kernel_rfl) (by kernel_rfl) (fun _ _ _ h => h) (Or.inl ⟨by rfl, ?hyhr17⟩) (by assumption) ?resthr17
  case hyhr17 => (intro w hSw; (try dsimp only at hSw); go_simp <;> with_reducible rfl)
  try simp only [Act.put, List.setIfInBounds_toArray, List.set_cons_zero, List.set_cons_succ]
  refine wpAnyH_take (i := 27) (oi := { dst := some 36, op := Op.binOp BinOp.geq 3 (Operand.tmp 26) (Operand.tmp 35) 3, type := 4, pos := "stm.go:204", after := _, guard := some (12, false) }) (v := .bool false) rfl (by kernel_rfl) (by kernel_rfl) (by kernel_rfl) (fun _ _ _ h => h) (Or.inl ⟨by rfl, ?hyhr27⟩) (by assumption) ?resthr27
  case hyhr27 => (intro w hSw; (try dsimp only at hSw); go_simp <;> first | done | with_reducible rfl | omega | (simp; done) | (simp; omega) | (simp [*]; done) | (simp [*]; omega) | exact decide_eq_false (by omega) | exact decide_eq_true (by omega))
  try simp only [Act.put, List.setIfInBounds_toArray, List.set_cons_zero, List.set_cons_succ]
  refine wpAnyH_take (i := 28) (oi := { dst := some 37, op := Op.pick (Operand.tmp 21) (Operand.const (Value.bool true)) (Operand.tmp 36), type := 4, pos := "stm.go:204", after := _, guard := none }) (v := ?vhr28) rfl (by kernel_rfl) (by kernel_rfl) (by kernel_rfl) (fun _ _ _ h => h) (Or.inl ⟨by rfl, ?hyhr28⟩) (by assumption) ?resthr28
  case hyhr28 => (intro w hSw; (try dsimp only at hSw); go_simp <;> with_reducible rfl)
  try simp only [Act.put, List.setIfInBounds_toArray, List.set_cons_zero, List.set_cons_succ]
  refine wpAnyH_done (by kernel_rfl) ?_ _

  obtain ⟨fs, hfs⟩ : ∃ fs : Array Value, fs = #[.func (.func 44) #[.pointer (some ⟨r, 0, none⟩)] #[], .func (.func 45) #[.pointer (some ⟨r, 0, none⟩)] #[], .func (.func 46) #[.pointer (some ⟨r, 0, none⟩)] #[], .func (.func 47) #[.pointer (some ⟨r, 0, none⟩)] #[], .func (.func 48) #[.pointer (some ⟨r, 0, none⟩)] #[], .func (.func 49) #[.pointer (some ⟨r, 0, none⟩)] #[]] := ⟨_, rfl⟩
  have HF := Lib.hid hfs
  clear hfs
  go_wp2_with (refine wpList_store_new rfl 78 _ _ rfl fs (by rfl) (by rw [HF.out]; rfl) (by rw [HF.out]; rfl) (by rw [HF.out]; exact ways_size) (by rw [HF.out]; simp [Value.oneCell']) ?_; intro w2 hB2 hb2; have HB2 := Lib.hid hB2; have hW2 := HB1.out.trans (hb2.mono HB1.out.size); have HW2 := Lib.hid hW2; clear hB2 hb2 hW2)
  refine (HME.out _ HW2.out).mono ?_
  rintro e w3 ⟨rfl, hb3⟩
  have HB3 := Lib.hid hb3
  have HW3 := Lib.hid (HW2.out.trans (hb3.mono HW2.out.size))
  have q0 := HC0.out _ HW3.out
  have qf : w3.cell? ⟨w1.heap.size, 3, none⟩ = some (.func (.func 47) #[.pointer (some ⟨r, 0, none⟩)] #[]) := by rw [(HB2.out.keep HB3.out).cell, HF.out]; rfl
  have H3 := Lib.hid (HR.out.keep HW3.out)
  have hl1 : w1.heap.size < w3.heap.size := (HB2.out.keep HB3.out).lt
  clear hb3
  go_wp2_with fail
  refine (HMM.out _ _ H3.out rfl).mono ?_
  rintro e w4 ⟨rfl, φ4, a4, m4, h4, e4⟩
  have H4 := Lib.hid h4
  have HE4 := Lib.hid e4
  clear h4 e4
  go_wp2
  go_end0
  exact ⟨rfl, _, _, _, H4.out, HE4.out⟩

set_option maxHeartbeats 4000000 in
theorem step_check {who0 : Int} (h : RunW w0 w r φ a m pw pm pv who0) {k : Nat} {t : Tx} (hk : m.T[k]? = some t) {pl : List (List (List Ac))} (hpl : PlV w0 pv pl) {txs : List (List Ac)} (htxs : pl[k]? = some txs) (x : Nat) (htx : t.tx = (x : Int)) (hx : x < txs.length) (hst : t.st = 4) {mm : Mm}
    (HM : ∀ W a', RunW w0 W r φ a m pw pm pv (k : Int) → a' = a → Calls Try.prog 48 #[.pointer (some ⟨r, 0, none⟩)] W (DonePost w0 r a mm k pw pm pv)) :
    Calls Try.prog 24 #[.pointer (some ⟨r, 0, none⟩), .int .i64 (k : Int)] w (StepPost w0 r mm pw pm pv (k : Int)) := by
  have hpw := hpl.below (h.setWho (k : Int)).base
  obtain ⟨b1, o1, c1, A1, d1, e1, hb1, hm1, hc1, hT1⟩ := hpw.at_ htxs
  have HR := Lib.hid (h.setWho (k : Int))
  have HK := Lib.hid hk
  have c10 : w.cell? ⟨r, 10, none⟩ = some (.int .i64 who0) := h.rcells 10
  have f10 := h.run.free 10
  have hlt := h.tlt hk
  have hkp : k < pl.length := (List.getElem?_eq_some_iff.1 htxs).1
  obtain ⟨n1, hn1⟩ : ∃ n, n = pl.length := ⟨_, rfl⟩
  obtain ⟨n2, hn2⟩ : ∃ n, n = txs.length := ⟨_, rfl⟩
  obtain ⟨n, hn⟩ : ∃ n, n = m.T.length := ⟨_, rfl⟩
  rw [← hn1] at e1
  rw [← hn2] at hc1
  have HC := Lib.hid (fun W (hb : Below (w.setCell ⟨r, 10, none⟩ (.int .i64 (k : Int))).heap.size (w.setCell ⟨r, 10, none⟩ (.int .i64 (k : Int))) W) => (show W.cell? ⟨r, 4, none⟩ = some (.slice (some ⟨a.gT, 0, none⟩) n a.cT) ∧ W.cell? ⟨r, 9, none⟩ = some (.slice (some ⟨b1, o1, none⟩) n1 c1) ∧ W.cell? ⟨b1, o1 + k, none⟩ = some (.slice A1 n2 d1) ∧ W.cell? ⟨a.gT, k * 11 + 1, none⟩ = some (.int .i64 (x : Int)) from
    ⟨by rw [hn]; exact (HR.out.keep hb).rcells 4, by rw [← e1]; exact (HR.out.keep hb).rcells 9, (hb.cell (p := ⟨b1, o1 + k, none⟩) hb1).trans hc1, by rw [← htx]; exact (HR.out.keep hb).tcells HK.out (j := 1) rfl⟩))
  have HME := Lib.hid (fun W (hb : Below (w.setCell ⟨r, 10, none⟩ (.int .i64 (k : Int))).heap.size (w.setCell ⟨r, 10, none⟩ (.int .i64 (k : Int))) W) => me_any (HR.out.keep hb) HK.out)
  have hk0 : (0 : Int) ≤ (k : Int) := by omega
  have hk0' : ¬ (k : Int) < 0 := by omega
  have hk1 : (k : Int) < (n1 : Int) := by omega
  have hkn : ¬ (n : Int) ≤ (k : Int) := by omega
  have hx0 : (0 : Int) ≤ (x : Int) := by omega
  have hxz : ¬ (n2 : Int) ≤ (x : Int) := by omega
  have HMM := Lib.hid HM
  have HC0 := Lib.hid (fun W (hb : Below (w.setCell ⟨r, 10, none⟩ (.int .i64 (k : Int))).heap.size (w.setCell ⟨r, 10, none⟩ (.int .i64 (k : Int))) W) => (show W.cell? ⟨a.gT, k * 11, none⟩ = some (.int .i64 4) from by have e := (HR.out.keep hb).tcells HK.out (j := 0) rfl; rw [hst] at e; simpa using e))
  have hTl : a.gT < (w.setCell ⟨r, 10, none⟩ (.int .i64 (k : Int))).heap.size := HR.out.apart.2.2.2.1
  clear h hk hpl htxs htx hpw hb1 hm1 hc1 hT1 e1 hn1 hn2 hn hkp hlt hx hst HM
  go_enter Try.func24, Try.ntmps24
  go_wp2_with fail
  refine wp_region_held_drew (S := fun W => W.cell? ⟨r, 4, none⟩ = some (.slice (some ⟨a.gT, 0, none⟩) n a.cT) ∧ W.cell? ⟨r, 9, none⟩ = some (.slice (some ⟨b1, o1, none⟩) n1 c1) ∧ W.cell? ⟨b1, o1 + k, none⟩ = some (.slice A1 n2 d1) ∧ W.cell? ⟨a.gT, k * 11 + 1, none⟩ = some (.int .i64 (x : Int))) (by kernel_rfl) ?_ (fun hHeldir => ?_)
  · exact HC.out _ (Below.refl _ _).drew
  refine wpAnyH_take (i := 0) (oi := { dst := some 9, op := Op.move (Operand.tmp 1), type := 3, pos := "stm.go:204", after := _, guard := none }) (v := ?vir0) rfl (by kernel_rfl) (by kernel_rfl) (by kernel_rfl) (fun _ _ _ h => h) (Or.inl ⟨by rfl, ?hyir0⟩) (by assumption) ?restir0
  case hyir0 => (intro w hSw; (try dsimp only at hSw); go_simp <;> with_reducible rfl)
  try simp only [Act.put, List.setIfInBounds_toArray, List.set_cons_zero, List.set_cons_succ]
  refine wpAnyH_take (i := 1) (oi := { dst := some 10, op := Op.binOp BinOp.lss 3 (Operand.tmp 9) (Operand.const (Value.int IntKind.i64 0)) 3, type := 4, pos := "stm.go:204", after := _, guard := none }) (v := .bool false) rfl (by kernel_rfl) (by kernel_rfl) (by kernel_rfl) (fun _ _ _ h => h) (Or.inl ⟨by rfl, ?hyir1⟩) (by assumption) ?restir1
  case hyir1 => (intro w hSw; (try dsimp only at hSw); go_simp <;> first | done | with_reducible rfl | omega | (simp; done) | (simp; omega) | (simp [*]; done) | (simp [*]; omega) | exact decide_eq_false (by omega) | exact decide_eq_true (by omega))
  try simp only [Act.put, List.setIfInBounds_toArray, List.set_cons_zero, List.set_cons_succ]
  refine wpAnyH_take (i := 2) (oi := { dst := some 11, op := Op.move (Operand.tmp 10), type := 4, pos := "stm.go:204", after := _, guard := none }) (v := ?vir2) rfl (by kernel_rfl) (by kernel_rfl) (by kernel_rfl) (fun _ _ _ h => h) (Or.inl ⟨by rfl, ?hyir2⟩) (by assumption) ?restir2
  case hyir2 => (intro w hSw; (try dsimp only at hSw); go_simp <;> with_reducible rfl)
  try simp only [Act.put, List.setIfInBounds_toArray, List.set_cons_zero, List.set_cons_succ]
  refine wpAnyH_take (i := 3) (oi := { dst := some 12, op := Op.move (Operand.tmp 1), type := 3, pos := "stm.go:204", after := _, guard := some (2, false) }) (v := ?vir3) rfl (by kernel_rfl) (by kernel_rfl) (by kernel_rfl) (fun _ _ _ h => h) (Or.inl ⟨by rfl, ?hyir3⟩) (by assumption) ?restir3
  case hyir3 => (intro w hSw; (try dsimp only at hSw); go_simp <;> with_reducible rfl)
  try simp only [Act.put, List.setIfInBounds_toArray, List.set_cons_zero, List.set_cons_succ]
  refine wpAnyH_take (i := 4) (oi := { dst := some 13, op := Op.move (Operand.tmp 0), type := 58, pos := "stm.go:204", after := _, guard := some (2, false) }) (v := ?vir4) rfl (by kernel_rfl) (by kernel_rfl) (by kernel_rfl) (fun _ _ _ h => h) (Or.inl ⟨by rfl, ?hyir4⟩) (by assumption) ?restir4
  case hyir4 => (intro w hSw; (try dsimp only at hSw); go_simp <;> with_reducible rfl)
  try simp only [Act.put, List.setIfInBounds_toArray, List.set_cons_zero, List.set_cons_succ]
  refine wpAnyH_take (i := 5) (oi := { dst := some 14, op := Op.nilCheck (Operand.tmp 13), type := 0, pos := "stm.go:204", after := _, guard := some (2, false) }) (v := ?vir5) rfl (by kernel_rfl) (by kernel_rfl) (by kernel_rfl) (fun _ _ _ h => h) (Or.inl ⟨by rfl, ?hyir5⟩) (by assumption) ?restir5
  case hyir5 => (intro w hSw; (try dsimp only at hSw); go_simp <;> with_reducible rfl)
  try simp only [Act.put, List.setIfInBounds_toArray, List.set_cons_zero, List.set_cons_succ]
  refine wpAnyH_take (i := 6) (oi := { dst := some 15, op := Op.fieldAddr 60 (Operand.tmp 14) 0, type := 0, pos := "stm.go:204", after := _, guard := some (2, false) }) (v := ?vir6) rfl (by kernel_rfl) (by kernel_rfl) (by kernel_rfl) (fun _ _ _ h => h) (Or.inl ⟨by rfl, ?hyir6⟩) (by assumption) ?restir6
  case hyir6 => (intro w hSw; (try dsimp only at hSw); go_simp <;> with_reducible rfl)
  try simp only [Act.put, List.setIfInBounds_toArray, List.set_cons_zero, List.set_cons_succ]
  refine wpAnyH_take (i := 7) (oi := { dst := some 16, op := Op.fieldAddr 34 (Operand.tmp 15) 2, type := 0, pos := "stm.go:204", after := _, guard := some (2, false) }) (v := ?vir7) rfl (by kernel_rfl) (by kernel_rfl) (by kernel_rfl) (fun _ _ _ h => h) (Or.inl ⟨by rfl, ?hyir7⟩) (by assumption) ?restir7
  case hyir7 => (intro w hSw; (try dsimp only at hSw); go_simp <;> with_reducible rfl)
  try simp only [Act.put, List.setIfInBounds_toArray, List.set_cons_zero, List.set_cons_succ]
  refine wpAnyH_take (i := 8) (oi := { dst := some 17, op := Op.load 31 (Operand.tmp 16), type := 31, pos := "stm.go:204", after := _, guard := some (2, false) }) (v := ?vir8) rfl (by kernel_rfl) (by kernel_rfl) (by kernel_rfl) (fun _ _ _ h => h) (Or.inl ⟨by rfl, ?hyir8⟩) (by assumption) ?restir8
  case hyir8 => (intro w hSw; (try dsimp only at hSw); go_simp <;> with_reducible rfl)
  try simp only [Act.put, List.setIfInBounds_toArray, List.set_cons_zero, List.set_cons_succ]
  refine wpAnyH_take (i := 9) (oi := { dst := some 18, op := Op.call { callee := Callee.builtin Builtin.len, args := #[Operand.tmp 17], argTypes := #[31] }, type := 3, pos := "stm.go:204", after := _, guard := some (2, false) }) (v := ?vir9) rfl (by kernel_rfl) (by kernel_rfl) (by kernel_rfl) (fun _ _ _ h => h) (Or.inl ⟨by rfl, ?hyir9⟩) (by assumption) ?restir9
  case hyir9 => (intro w hSw; (try dsimp only at hSw); go_simp <;> with_reducible rfl)
  try simp only [Act.put, List.setIfInBounds_toArray, List.set_cons_zero, List.set_cons_succ]
  refine wpAnyH_take (i := 10) (oi := { dst := some 19, op := Op.binOp BinOp.geq 3 (Operand.tmp 12) (Operand.tmp 18) 3, type := 4, pos := "stm.go:204", after := _, guard := some (2, false) }) (v := .bool false) rfl (by kernel_rfl) (by kernel_rfl) (by kernel_rfl) (fun _ _ _ h => h) (Or.inl ⟨by rfl, ?hyir10⟩) (by assumption) ?restir10
  case hyir10 => (intro w hSw; (try dsimp only at hSw); go_simp <;> first | done | with_reducible rfl | omega | (simp; done) | (simp; omega) | (simp [*]; done) | (simp [*]; omega) | exact decide_eq_false (by omega) | exact decide_eq_true (by omega))
  try simp only [Act.put, List.setIfInBounds_toArray, List.set_cons_zero, List.set_cons_succ]
  refine wpAnyH_take (i := 11) (oi := { dst := some 20, op := Op.pick (Operand.tmp 11) (Operand.const (Value.bool true)) (Operand.tmp 19), type := 4, pos := "stm.go:204", after := _, guard := none }) (v := ?vir11) rfl (by kernel_rfl) (by kernel_rfl) (by kernel_rfl) (fun _ _ _ h => h) (Or.inl ⟨by rfl, ?hyir11⟩) (by assumption) ?restir11
  case hyir11 => (intro w hSw; (try dsimp only at hSw); go_simp <;> with_reducible rfl)
  try simp only [Act.put, List.setIfInBounds_toArray, List.set_cons_zero, List.set_cons_succ]
  refine wpAnyH_take (i := 12) (oi := { dst := some 21, op := Op.move (Operand.tmp 20), type := 4, pos := "stm.go:204", after := _, guard := none }) (v := ?vir12) rfl (by kernel_rfl) (by kernel_rfl) (by kernel_rfl) (fun _ _ _ h => h) (Or.inl ⟨by rfl, ?hyir12⟩) (by assumption) ?restir12
  case hyir12 => (intro w hSw; (try dsimp only at hSw); go_simp <;> with_reducible rfl)
  try simp only [Act.put, List.setIfInBounds_toArray, List.set_cons_zero, List.set_cons_succ]
  refine wpAnyH_take (i := 13) (oi := { dst := some 22, op := Op.move (Operand.tmp 0), type := 58, pos := "stm.go:204", after := _, guard := some (12, false) }) (v := ?vir13) rfl (by kernel_rfl) (by kernel_rfl) (by kernel_rfl) (fun _ _ _ h => h) (Or.inl ⟨by rfl, ?hyir13⟩) (by assumption) ?restir13
  case hyir13 => (intro w hSw; (try dsimp only at hSw); go_simp <;> with_reducible rfl)
  try simp only [Act.put, List.setIfInBounds_toArray, List.set_cons_zero, List.set_cons_succ]
  refine wpAnyH_take (i := 18) (oi := { dst := some 27, op := Op.move (Operand.tmp 0), type := 58, pos := "stm.go:204", after := _, guard := some (12, false) }) (v := ?vir18) rfl (by kernel_rfl) (by kernel_rfl) (by kernel_rfl) (fun _ _ _ h => h) (Or.inl ⟨by rfl, ?hyir18⟩) (by assumption) ?restir18
  case hyir18 => (intro w hSw; (try dsimp only at hSw); go_simp <;> with_reducible rfl)
  try simp only [Act.put, List.setIfInBounds_toArray, List.set_cons_zero, List.set_cons_succ]
  refine wpAnyH_take (i := 19) (oi := { dst := some 28, op := Op.nilCheck (Operand.tmp 27), type := 0, pos := "stm.go:204", after := _, guard := some (12, false) }) (v := ?vir19) rfl (by kernel_rfl) (by kernel_rfl) (by kernel_rfl) (fun _ _ _ h => h) (Or.inl ⟨by rfl, ?hyir19⟩) (by assumption) ?restir19
  case hyir19 => (intro w hSw; (try dsimp only at hSw); go_simp <;> with_reducible rfl)
  try simp only [Act.put, List.setIfInBounds_toArray, List.set_cons_zero, List.set_cons_succ]
  refine wpAnyH_take (i := 20) (oi := { dst := some 29, op := Op.fieldAddr 60 (Operand.tmp 28) 1, type := 0, pos := "stm.go:204", after := _, guard := some (12, false) }) (v := ?vir20) rfl (by kernel_rfl) (by kernel_rfl) (by kernel_rfl) (fun _ _ _ h => h) (Or.inl ⟨by rfl, ?hyir20⟩) (by assumption) ?restir20
  case hyir20 => (intro w hSw; (try dsimp only at hSw); go_simp <;> with_reducible rfl)
  try simp only [Act.put, List.setIfInBounds_toArray, List.set_cons_zero, List.set_cons_succ]
  refine wpAnyH_take (i := 21) (oi := { dst := some 30, op := Op.fieldAddr 24 (Operand.tmp 29) 2, type := 0, pos := "stm.go:204", after := _, guard := some (12, false) }) (v := ?vir21) rfl (by kernel_rfl) (by kernel_rfl) (by kernel_rfl) (fun _ _ _ h => h) (Or.inl ⟨by rfl, ?hyir21⟩) (by assumption) ?restir21
  case hyir21 => (intro w hSw; (try dsimp only at hSw); go_simp <;> with_reducible rfl)
  try simp only [Act.put, List.setIfInBounds_toArray, List.set_cons_zero, List.set_cons_succ]
  refine wpAnyH_take (i := 22) (oi := { dst := some 31, op := Op.load 22 (Operand.tmp 30), type := 22, pos := "stm.go:204", after := _, guard := some (12, false) }) (v := ?vir22) rfl (by kernel_rfl) (by kernel_rfl) (by kernel_rfl) (fun _ _ _ h => h) (Or.inl ⟨by rfl, ?hyir22⟩) (by assumption) ?restir22
  case hyir22 => (intro w hSw; (try dsimp only at hSw); go_simp <;> with_reducible rfl)
  try simp only [Act.put, List.setIfInBounds_toArray, List.set_cons_zero, List.set_cons_succ]
  refine wpAnyH_take (i := 23) (oi := { dst := some 32, op := Op.move (Operand.tmp 1), type := 3, pos := "stm.go:204", after := _, guard := some (12, false) }) (v := ?vir23) rfl (by kernel_rfl) (by kernel_rfl) (by kernel_rfl) (fun _ _ _ h => h) (Or.inl ⟨by rfl, ?hyir23⟩) (by assumption) ?restir23
  case hyir23 => (intro w hSw; (try dsimp only at hSw); go_simp <;> with_reducible rfl)
  try simp only [Act.put, List.setIfInBounds_toArray, List.set_cons_zero, List.set_cons_succ]
  refine wpAnyH_take (i := 24) (oi := { dst := some 33, op := Op.indexAddr 22 (Operand.tmp 31) (Operand.tmp 32), type := 0, pos := "stm.go:204", after := _, guard := some (12, false) }) (v := ?vir24) rfl (by kernel_rfl) (by kernel_rfl) (by kernel_rfl) (fun _ _ _ h => h) (Or.inl ⟨by rfl, ?hyir24⟩) (by assumption) ?restir24
  case hyir24 => (intro w hSw; (try dsimp only at hSw); go_simp <;> with_reducible rfl)
  try simp only [Act.put, List.setIfInBounds_toArray, List.set_cons_zero, List.set_cons_succ]
  refine wpAnyH_take (i := 25) (oi := { dst := some 34, op := Op.load 47 (Operand.tmp 33), type := 47, pos := "stm.go:204", after := _, guard := some (12, false) }) (v := ?vir25) rfl (by kernel_rfl) (by kernel_rfl) (by kernel_rfl) (fun _ _ _ h => h) (Or.inl ⟨by rfl, ?hyir25⟩) (by assumption) ?restir25
  case hyir25 => (intro w hSw; (try dsimp only at hSw); go_simp <;> with_reducible rfl)
  try simp only [Act.put, List.setIfInBounds_toArray, List.set_cons_zero, List.set_cons_succ]
  refine wpAnyH_take (i := 26) (oi := { dst := some 35, op := Op.call { callee := Callee.builtin Builtin.len, args := #[Operand.tmp 34], argTypes := #[47] }, type := 3, pos := "stm.go:204", after := _, guard := some (12, false) }) (v := ?vir26) rfl (by kernel_rfl) (by kernel_rfl) (by kernel_rfl) (fun _ _ _ h => h) (Or.inl ⟨by rfl, ?hyir26⟩) (by assumption) ?restir26
  case hyir26 => (intro w hSw; (try dsimp only at hSw); go_simp <;> with_reducible rfl)
  try simp only [Act.put, List.setIfInBounds_toArray, List.set_cons_zero, List.set_cons_succ]
  refine wpAnyH_ready (rs := [14]) (by kernel_rfl) (by simp) ?_
  refine AllReadyH.cons (o := { dst := some 23, op := Op.call { callee := Callee.value (Operand.func 43), args := #[Operand.tmp 22], argTypes := #[58] }, type := 76, pos := "stm.go:204", after := _, guard := some (12, false) }) rfl (fun K hK => ?_) AllReadyH.nil
  go_simp
  refine (HME.out _ (Below.refl _ _).drew).mono ?_
  rintro e w1 ⟨rfl, hb1'⟩
  have HB1 := Lib.hid ((Below.refl _ _).drew.trans hb1')
  clear hb1'
  try go_wp2_with fail
  refine hK.out _ _ ?_ (fun hHeldir14 => ?_)
  · exact HC.out _ HB1.out
  clear hK K hHeldir
  try simp only [Act.put, List.setIfInBounds_toArray, List.set_cons_zero, List.set_cons_succ]
  refine wpAnyH_take (i := 15) (oi := { dst := some 24, op := Op.nilCheck (Operand.tmp 23), type := 0, pos := "stm.go:204", after := _, guard := some (12, false) }) (v := ?vir15) rfl (by kernel_rfl) (by kernel_rfl) (by kernel_rfl) (fun _ _ _ h => h) (Or.inl ⟨by rfl, ?hyir15⟩) (by assumption) ?restir15
  case hyir15 => (intro w hSw; (try dsimp only at hSw); go_simp <;> with_reducible rfl)
  try simp only [Act.put, List.setIfInBounds_toArray, List.set_cons_zero, List.set_cons_succ]
  refine wpAnyH_take (i := 16) (oi := { dst := some 25, op := Op.fieldAddr 46 (Operand.tmp 24) 1, type := 0, pos := "stm.go:204", after := _, guard := some (12, false) }) (v := ?vir16) rfl (by kernel_rfl) (by kernel_rfl) (by kernel_rfl) (fun _ _ _ h => h) (Or.inl ⟨by rfl, ?hyir16⟩) (by assumption) ?restir16
  case hyir16 => (intro w hSw; (try dsimp only at hSw); go_simp <;> with_reducible rfl)
  try simp only [Act.put, List.setIfInBounds_toArray, List.set_cons_zero, List.set_cons_succ]
  refine wpAnyH_take (i := 17) (oi := { dst := some 26, op := Op.load 3 (Operand.tmp 25), type := 3, pos := "stm.go:204", after := _, guard := some (12, false) }) (v := ?vir17) rfl (by kernel_rfl) (by kernel_rfl) (by kernel_rfl) (fun _ _ _ h => h) (Or.inl ⟨by rfl, ?hyir17⟩) (by assumption) ?restir17
  case hyir17 => (intro w hSw; (try dsimp only at hSw); go_simp <;> with_reducible rfl)
  try simp only [Act.put, List.setIfInBounds_toArray, List.set_cons_zero, List.set_cons_succ]
  refine wpAnyH_take (i := 27) (oi := { dst := some 36, op := Op.binOp BinOp.geq 3 (Operand.tmp 26) (Operand.tmp 35) 3, type := 4, pos := "stm.go:204", after := _, guard := some (12, false) }) (v := .bool false) rfl (by kernel_rfl) (by kernel_rfl) (by kernel_rfl) (fun _ _ _ h => h) (Or.inl ⟨by rfl, ?hyir27⟩) (by assumption) ?restir27
  case hyir27 => (intro w hSw; (try dsimp only at hSw); go_simp <;> first | done | with_reducible rfl | omega | (simp; done) | (simp; omega) | (simp [*]; done) | (simp [*]; omega) | exact decide_eq_false (by omega) | exact decide_eq_true (by omega))
  try simp only [Act.put, List.setIfInBounds_toArray, List.set_cons_zero, List.set_cons_succ]
  refine wpAnyH_take (i := 28) (oi := { dst := some 37, op := Op.pick (Operand.tmp 21) (Operand.const (Value.bool true)) (Operand.tmp 36), type := 4, pos := "stm.go:204", after := _, guard := none }) (v := ?vir28) rfl (by kernel_rfl) (by kernel_rfl) (by kernel_rfl) (fun _ _ _ h => h) (Or.inl ⟨by rfl, ?hyir28⟩) (by assumption) ?restir28
  case hyir28 => (intro w hSw; (try dsimp only at hSw); go_simp <;> with_reducible rfl)
  try simp only [Act.put, List.setIfInBounds_toArray, List.set_cons_zero, List.set_cons_succ]
  refine wpAnyH_done (by kernel_rfl) ?_ _

  obtain ⟨fs, hfs⟩ : ∃ fs : Array Value, fs = #[.func (.func 44) #[.pointer (some ⟨r, 0, none⟩)] #[], .func (.func 45) #[.pointer (some ⟨r, 0, none⟩)] #[], .func (.func 46) #[.pointer (some ⟨r, 0, none⟩)] #[], .func (.func 47) #[.pointer (some ⟨r, 0, none⟩)] #[], .func (.func 48) #[.pointer (some ⟨r, 0, none⟩)] #[], .func (.func 49) #[.pointer (some ⟨r, 0, none⟩)] #[]] := ⟨_, rfl⟩
  have HF := Lib.hid hfs
  clear hfs
  go_wp2_with (refine wpList_store_new rfl 78 _ _ rfl fs (by rfl) (by rw [HF.out]; rfl) (by rw [HF.out]; rfl) (by rw [HF.out]; exact ways_size) (by rw [HF.out]; simp [Value.oneCell']) ?_; intro w2 hB2 hb2; have HB2 := Lib.hid hB2; have hW2 := HB1.out.trans (hb2.mono HB1.out.size); have HW2 := Lib.hid hW2; clear hB2 hb2 hW2)
  refine (HME.out _ HW2.out).mono ?_
  rintro e w3 ⟨rfl, hb3⟩
  have HB3 := Lib.hid hb3
  have HW3 := Lib.hid (HW2.out.trans (hb3.mono HW2.out.size))
  have q0 := HC0.out _ HW3.out
  have qf : w3.cell? ⟨w1.heap.size, 4, none⟩ = some (.func (.func 48) #[.pointer (some ⟨r, 0, none⟩)] #[]) := by rw [(HB2.out.keep HB3.out).cell, HF.out]; rfl
  have H3 := Lib.hid (HR.out.keep HW3.out)
  have hl1 : w1.heap.size < w3.heap.size := (HB2.out.keep HB3.out).lt
  clear hb3
  go_wp2_with fail
  refine (HMM.out _ _ H3.out rfl).mono ?_
  rintro e w4 ⟨rfl, φ4, a4, m4, h4, e4⟩
  have H4 := Lib.hid h4
  have HE4 := Lib.hid e4
  clear h4 e4
  go_wp2
  go_end0
  exact ⟨rfl, _, _, _, H4.out, HE4.out⟩

set_option maxHeartbeats 4000000 in
theorem step_back {who0 : Int} (h : RunW w0 w r φ a m pw pm pv who0) {k : Nat} {t : Tx} (hk : m.T[k]? = some t) {pl : List (List (List Ac))} (hpl : PlV w0 pv pl) {txs : List (List Ac)} (htxs : pl[k]? = some txs) (x : Nat) (htx : t.tx = (x : Int)) (hx : x < txs.length) (hst : t.st = 5) {mm : Mm}
    (HM : ∀ W a', RunW w0 W r φ a m pw pm pv (k : Int) → a' = a → Calls Try.prog 49 #[.pointer (some ⟨r, 0, none⟩)] W (DonePost w0 r a mm k pw pm pv)) :
    Calls Try.prog 24 #[.pointer (some ⟨r, 0, none⟩), .int .i64 (k : Int)] w (StepPost w0 r mm pw pm pv (k : Int)) := by
  have hpw := hpl.below (h.setWho (k : Int)).base
  obtain ⟨b1, o1, c1, A1, d1, e1, hb1, hm1, hc1, hT1⟩ := hpw.at_ htxs
  have HR := Lib.hid (h.setWho (k : Int))
  have HK := Lib.hid hk
  have c10 : w.cell? ⟨r, 10, none⟩ = some (.int .i64 who0) := h.rcells 10
  have f10 := h.run.free 10
  have hlt := h.tlt hk
  have hkp : k < pl.length := (List.getElem?_eq_some_iff.1 htxs).1
  obtain ⟨n1, hn1⟩ : ∃ n, n = pl.length := ⟨_, rfl⟩
  obtain ⟨n2, hn2⟩ : ∃ n, n = txs.length := ⟨_, rfl⟩
  obtain ⟨n, hn⟩ : ∃ n, n = m.T.length := ⟨_, rfl⟩
  rw [← hn1] at e1
  rw [← hn2] at hc1
  have HC := Lib.hid (fun W (hb : Below (w.setCell ⟨r, 10, none⟩ (.int .i64 (k : Int))).heap.size (w.setCell ⟨r, 10, none⟩ (.int .i64 (k : Int))) W) => (show W.cell? ⟨r, 4, none⟩ = some (.slice (some ⟨a.gT, 0, none⟩) n a.cT) ∧ W.cell? ⟨r, 9, none⟩ = some (.slice (some ⟨b1, o1, none⟩) n1 c1) ∧ W.cell? ⟨b1, o1 + k, none⟩ = some (.slice A1 n2 d1) ∧ W.cell? ⟨a.gT, k * 11 + 1, none⟩ = some (.int .i64 (x : Int)) from
    ⟨by rw [hn]; exact (HR.out.keep hb).rcells 4, by rw [← e1]; exact (HR.out.keep hb).rcells 9, (hb.cell (p := ⟨b1, o1 + k, none⟩) hb1).trans hc1, by rw [← htx]; exact (HR.out.keep hb).tcells HK.out (j := 1) rfl⟩))
  have HME := Lib.hid (fun W (hb : Below (w.setCell ⟨r, 10, none⟩ (.int .i64 (k : Int))).heap.size (w.setCell ⟨r, 10, none⟩ (.int .i64 (k : Int))) W) => me_any (HR.out.keep hb) HK.out)
  have hk0 : (0 : Int) ≤ (k : Int) := by omega
  have hk0' : ¬ (k : Int) < 0 := by omega
  have hk1 : (k : Int) < (n1 : Int) := by omega
  have hkn : ¬ (n : Int) ≤ (k : Int) := by omega
  have hx0 : (0 : Int) ≤ (x : Int) := by omega
  have hxz : ¬ (n2 : Int) ≤ (x : Int) := by omega
  have HMM := Lib.hid HM
  have HC0 := Lib.hid (fun W (hb : Below (w.setCell ⟨r, 10, none⟩ (.int .i64 (k : Int))).heap.size (w.setCell ⟨r, 10, none⟩ (.int .i64 (k : Int))) W) => (show W.cell? ⟨a.gT, k * 11, none⟩ = some (.int .i64 5) from by have e := (HR.out.keep hb).tcells HK.out (j := 0) rfl; rw [hst] at e; simpa using e))
  have hTl : a.gT < (w.setCell ⟨r, 10, none⟩ (.int .i64 (k : Int))).heap.size := HR.out.apart.2.2.2.1
  clear h hk hpl htxs htx hpw hb1 hm1 hc1 hT1 e1 hn1 hn2 hn hkp hlt hx hst HM
  go_enter Try.func24, Try.ntmps24
  go_wp2_with fail
  refine wp_region_held_drew (S := fun W => W.cell? ⟨r, 4, none⟩ = some (.slice (some ⟨a.gT, 0, none⟩) n a.cT) ∧ W.cell? ⟨r, 9, none⟩ = some (.slice (some ⟨b1, o1, none⟩) n1 c1) ∧ W.cell? ⟨b1, o1 + k, none⟩ = some (.slice A1 n2 d1) ∧ W.cell? ⟨a.gT, k * 11 + 1, none⟩ = some (.int .i64 (x : Int))) (by kernel_rfl) ?_ (fun hHeldjr => ?_)
  · exact HC.out _ (Below.refl _ _).drew
  refine wpAnyH_take (i := 0) (oi := { dst := some 9, op := Op.move (Operand.tmp 1), type := 3, pos := "stm.go:204", after := _, guard := none }) (v := ?vjr0) rfl (by kernel_rfl) (by kernel_rfl) (by kernel_rfl) (fun _ _ _ h => h) (Or.inl ⟨by rfl, ?hyjr0⟩) (by assumption) ?restjr0
  case hyjr0 => (intro w hSw; (try dsimp only at hSw); go_simp <;> with_reducible rfl)
  try simp only [Act.put, List.setIfInBounds_toArray, List.set_cons_zero, List.set_cons_succ]
  refine wpAnyH_take (i := 1) (oi := { dst := some 10, op := Op.binOp BinOp.lss 3 (Operand.tmp 9) (Operand.const (Value.int IntKind.i64 0)) 3, type := 4, pos := "stm.go:204", after := _, guard := none }) (v := .bool false) rfl (by kernel_rfl) (by kernel_rfl) (by kernel_rfl) (fun _ _ _ h => h) (Or.inl ⟨by rfl, ?hyjr1⟩) (by assumption) ?restjr1
  case hyjr1 => (intro w hSw; (try dsimp only at hSw); go_simp <;> first | done | with_reducible rfl | omega | (simp; done) | (simp; omega) | (simp [*]; done) | (simp [*]; omega) | exact decide_eq_false (by omega) | exact decide_eq_true (by omega))
  try simp only [Act.put, List.setIfInBounds_toArray, List.set_cons_zero, List.set_cons_succ]
  refine wpAnyH_take (i := 2) (oi := { dst := some 11, op := Op.move (Operand.tmp 10), type := 4, pos := "stm.go:204", after := _, guard := none }) (v := ?vjr2) rfl (by kernel_rfl) (by kernel_rfl) (by kernel_rfl) (fun _ _ _ h => h) (Or.inl ⟨by rfl, ?hyjr2⟩) (by assumption) ?restjr2
  case hyjr2 => (intro w hSw; (try dsimp only at hSw); go_simp <;> with_reducible rfl)
  try simp only [Act.put, List.setIfInBounds_toArray, List.set_cons_zero, List.set_cons_succ]
  refine wpAnyH_take (i := 3) (oi := { dst := some 12, op := Op.move (Operand.tmp 1), type := 3, pos := "stm.go:204", after := _, guard := some (2, false) }) (v := ?vjr3) rfl (by kernel_rfl) (by kernel_rfl) (by kernel_rfl) (fun _ _ _ h => h) (Or.inl ⟨by rfl, ?hyjr3⟩) (by assumption) ?restjr3
  case hyjr3 => (intro w hSw; (try dsimp only at hSw); go_simp <;> with_reducible rfl)
  try simp only [Act.put, List.setIfInBounds_toArray, List.set_cons_zero, List.set_cons_succ]
  refine wpAnyH_take (i := 4) (oi := { dst := some 13, op := Op.move (Operand.tmp 0), type := 58, pos := "stm.go:204", after := _, guard := some (2, false) }) (v := ?vjr4) rfl (by kernel_rfl) (by kernel_rfl) (by kernel_rfl) (fun _ _ _ h => h) (Or.inl ⟨by rfl, ?hyjr4⟩) (by assumption) ?restjr4
  case hyjr4 => (intro w hSw; (try dsimp only at hSw); go_simp <;> with_reducible rfl)
  try simp only [Act.put, List.setIfInBounds_toArray, List.set_cons_zero, List.set_cons_succ]
  refine wpAnyH_take (i := 5) (oi := { dst := some 14, op := Op.nilCheck (Operand.tmp 13), type := 0, pos := "stm.go:204", after := _, guard := some (2, false) }) (v := ?vjr5) rfl (by kernel_rfl) (by kernel_rfl) (by kernel_rfl) (fun _ _ _ h => h) (Or.inl ⟨by rfl, ?hyjr5⟩) (by assumption) ?restjr5
  case hyjr5 => (intro w hSw; (try dsimp only at hSw); go_simp <;> with_reducible rfl)
  try simp only [Act.put, List.setIfInBounds_toArray, List.set_cons_zero, List.set_cons_succ]
  refine wpAnyH_take (i := 6) (oi := { dst := some 15, op := Op.fieldAddr 60 (Operand.tmp 14) 0, type := 0, pos := "stm.go:204", after := _, guard := some (2, false) }) (v := ?vjr6) rfl (by kernel_rfl) (by kernel_rfl) (by kernel_rfl) (fun _ _ _ h => h) (Or.inl ⟨by rfl, ?hyjr6⟩) (by assumption) ?restjr6
  case hyjr6 => (intro w hSw; (try dsimp only at hSw); go_simp <;> with_reducible rfl)
  try simp only [Act.put, List.setIfInBounds_toArray, List.set_cons_zero, List.set_cons_succ]
  refine wpAnyH_take (i := 7) (oi := { dst := some 16, op := Op.fieldAddr 34 (Operand.tmp 15) 2, type := 0, pos := "stm.go:204", after := _, guard := some (2, false) }) (v := ?vjr7) rfl (by kernel_rfl) (by kernel_rfl) (by kernel_rfl) (fun _ _ _ h => h) (Or.inl ⟨by rfl, ?hyjr7⟩) (by assumption) ?restjr7
  case hyjr7 => (intro w hSw; (try dsimp only at hSw); go_simp <;> with_reducible rfl)
  try simp only [Act.put, List.setIfInBounds_toArray, List.set_cons_zero, List.set_cons_succ]
  refine wpAnyH_take (i := 8) (oi := { dst := some 17, op := Op.load 31 (Operand.tmp 16), type := 31, pos := "stm.go:204", after := _, guard := some (2, false) }) (v := ?vjr8) rfl (by kernel_rfl) (by kernel_rfl) (by kernel_rfl) (fun _ _ _ h => h) (Or.inl ⟨by rfl, ?hyjr8⟩) (by assumption) ?restjr8
  case hyjr8 => (intro w hSw; (try dsimp only at hSw); go_simp <;> with_reducible rfl)
  try simp only [Act.put, List.setIfInBounds_toArray, List.set_cons_zero, List.set_cons_succ]
  refine wpAnyH_take (i := 9) (oi := { dst := some 18, op := Op.call { callee := Callee.builtin Builtin.len, args := #[Operand.tmp 17], argTypes := #[31] }, type := 3, pos := "stm.go:204", after := _, guard := some (2, false) }) (v := ?vjr9) rfl (by kernel_rfl) (by kernel_rfl) (by kernel_rfl) (fun _ _ _ h => h) (Or.inl ⟨by rfl, ?hyjr9⟩) (by assumption) ?restjr9
  case hyjr9 => (intro w hSw; (try dsimp only at hSw); go_simp <;> with_reducible rfl)
  try simp only [Act.put, List.setIfInBounds_toArray, List.set_cons_zero, List.set_cons_succ]
  refine wpAnyH_take (i := 10) (oi := { dst := some 19, op := Op.binOp BinOp.geq 3 (Operand.tmp 12) (Operand.tmp 18) 3, type := 4, pos := "stm.go:204", after := _, guard := some (2, false) }) (v := .bool false) rfl (by kernel_rfl) (by kernel_rfl) (by kernel_rfl) (fun _ _ _ h => h) (Or.inl ⟨by rfl, ?hyjr10⟩) (by assumption) ?restjr10
  case hyjr10 => (intro w hSw; (try dsimp only at hSw); go_simp <;> first | done | with_reducible rfl | omega | (simp; done) | (simp; omega) | (simp [*]; done) | (simp [*]; omega) | exact decide_eq_false (by omega) | exact decide_eq_true (by omega))
  try simp only [Act.put, List.setIfInBounds_toArray, List.set_cons_zero, List.set_cons_succ]
  refine wpAnyH_take (i := 11) (oi := { dst := some 20, op := Op.pick (Operand.tmp 11) (Operand.const (Value.bool true)) (Operand.tmp 19), type := 4, pos := "stm.go:204", after := _, guard := none }) (v := ?vjr11) rfl (by kernel_rfl) (by kernel_rfl) (by kernel_rfl) (fun _ _ _ h => h) (Or.inl ⟨by rfl, ?hyjr11⟩) (by assumption) ?restjr11
  case hyjr11 => (intro w hSw; (try dsimp only at hSw); go_simp <;> with_reducible rfl)
  try simp only [Act.put, List.setIfInBounds_toArray, List.set_cons_zero, List.set_cons_succ]
  refine wpAnyH_take (i := 12) (oi := { dst := some 21, op := Op.move (Operand.tmp 20), type := 4, pos := "stm.go:204", after := _, guard := none }) (v := ?vjr12) rfl (by kernel_rfl) (by kernel_rfl) (by kernel_rfl) (fun _ _ _ h => h) (Or.inl ⟨by rfl, ?hyjr12⟩) (by assumption) ?restjr12
  case hyjr12 => (intro w hSw; (try dsimp only at hSw); go_simp <;> with_reducible rfl)
  try simp only [Act.put, List.setIfInBounds_toArray, List.set_cons_zero, List.set_cons_succ]
  refine wpAnyH_take (i := 13) (oi := { dst := some 22, op := Op.move (Operand.tmp 0), type := 58, pos := "stm.go:204", after := _, guard := some (12, false) }) (v := ?vjr13) rfl (by kernel_rfl) (by kernel_rfl) (by kernel_rfl) (fun _ _ _ h => h) (Or.inl ⟨by rfl, ?hyjr13⟩) (by assumption) ?restjr13
  case hyjr13 => (intro w hSw; (try dsimp only at hSw); go_simp <;> with_reducible rfl)
  try simp only [Act.put, List.setIfInBounds_toArray, List.set_cons_zero, List.set_cons_succ]
  refine wpAnyH_take (i := 18) (oi := { dst := some 27, op := Op.move (Operand.tmp 0), type := 58, pos := "stm.go:204", after := _, guard := some (12, false) }) (v := ?vjr18) rfl (by kernel_rfl) (by kernel_rfl) (by kernel_rfl) (fun _ _ _ h => h) (Or.inl ⟨by rfl, ?hyjr18⟩) (by assumption) ?restjr18
  case hyjr18 => (intro w hSw; (try dsimp only at hSw); go_simp <;> with_reducible rfl)
  try simp only [Act.put, List.setIfInBounds_toArray, List.set_cons_zero, List.set_cons_succ]
  refine wpAnyH_take (i := 19) (oi := { dst := some 28, op := Op.nilCheck (Operand.tmp 27), type := 0, pos := "stm.go:204", after := _, guard := some (12, false) }) (v := ?vjr19) rfl (by kernel_rfl) (by kernel_rfl) (by kernel_rfl) (fun _ _ _ h => h) (Or.inl ⟨by rfl, ?hyjr19⟩) (by assumption) ?restjr19
  case hyjr19 => (intro w hSw; (try dsimp only at hSw); go_simp <;> with_reducible rfl)
  try simp only [Act.put, List.setIfInBounds_toArray, List.set_cons_zero, List.set_cons_succ]
  refine wpAnyH_take (i := 20) (oi := { dst := some 29, op := Op.fieldAddr 60 (Operand.tmp 28) 1, type := 0, pos := "stm.go:204", after := _, guard := some (12, false) }) (v := ?vjr20) rfl (by kernel_rfl) (by kernel_rfl) (by kernel_rfl) (fun _ _ _ h => h) (Or.inl ⟨by rfl, ?hyjr20⟩) (by assumption) ?restjr20
  case hyjr20 => (intro w hSw; (try dsimp only at hSw); go_simp <;> with_reducible rfl)
  try simp only [Act.put, List.setIfInBounds_toArray, List.set_cons_zero, List.set_cons_succ]
  refine wpAnyH_take (i := 21) (oi := { dst := some 30, op := Op.fieldAddr 24 (Operand.tmp 29) 2, type := 0, pos := "stm.go:204", after := _, guard := some (12, false) }) (v := ?vjr21) rfl (by kernel_rfl) (by kernel_rfl) (by kernel_rfl) (fun _ _ _ h => h) (Or.inl ⟨by rfl, ?hyjr21⟩) (by assumption) ?restjr21
  case hyjr21 => (intro w hSw; (try dsimp only at hSw); go_simp <;> with_reducible rfl)
  try simp only [Act.put, List.setIfInBounds_toArray, List.set_cons_zero, List.set_cons_succ]
  refine wpAnyH_take (i := 22) (oi := { dst := some 31, op := Op.load 22 (Operand.tmp 30), type := 22, pos := "stm.go:204", after := _, guard := some (12, false) }) (v := ?vjr22) rfl (by kernel_rfl) (by kernel_rfl) (by kernel_rfl) (fun _ _ _ h => h) (Or.inl ⟨by rfl, ?hyjr22⟩) (by assumption) ?restjr22
  case hyjr22 => (intro w hSw; (try dsimp only at hSw); go_simp <;> with_reducible rfl)
  try simp only [Act.put, List.setIfInBounds_toArray, List.set_cons_zero, List.set_cons_succ]
  refine wpAnyH_take (i := 23) (oi := { dst := some 32, op := Op.move (Operand.tmp 1), type := 3, pos := "stm.go:204", after := _, guard := some (12, false) }) (v := ?vjr23) rfl (by kernel_rfl) (by kernel_rfl) (by kernel_rfl) (fun _ _ _ h => h) (Or.inl ⟨by rfl, ?hyjr23⟩) (by assumption) ?restjr23
  case hyjr23 => (intro w hSw; (try dsimp only at hSw); go_simp <;> with_reducible rfl)
  try simp only [Act.put, List.setIfInBounds_toArray, List.set_cons_zero, List.set_cons_succ]
  refine wpAnyH_take (i := 24) (oi := { dst := some 33, op := Op.indexAddr 22 (Operand.tmp 31) (Operand.tmp 32), type := 0, pos := "stm.go:204", after := _, guard := some (12, false) }) (v := ?vjr24) rfl (by kernel_rfl) (by kernel_rfl) (by kernel_rfl) (fun _ _ _ h => h) (Or.inl ⟨by rfl, ?hyjr24⟩) (by assumption) ?restjr24
  case hyjr24 => (intro w hSw; (try dsimp only at hSw); go_simp <;> with_reducible rfl)
  try simp only [Act.put, List.setIfInBounds_toArray, List.set_cons_zero, List.set_cons_succ]
  refine wpAnyH_take (i := 25) (oi := { dst := some 34, op := Op.load 47 (Operand.tmp 33), type := 47, pos := "stm.go:204", after := _, guard := some (12, false) }) (v := ?vjr25) rfl (by kernel_rfl) (by kernel_rfl) (by kernel_rfl) (fun _ _ _ h => h) (Or.inl ⟨by rfl, ?hyjr25⟩) (by assumption) ?restjr25
  case hyjr25 => (intro w hSw; (try dsimp only at hSw); go_simp <;> with_reducible rfl)
  try simp only [Act.put, List.setIfInBounds_toArray, List.set_cons_zero, List.set_cons_succ]
  refine wpAnyH_take (i := 26) (oi := { dst := some 35, op := Op.call { callee := Callee.builtin Builtin.len, args := #[Operand.tmp 34], argTypes := #[47] }, type := 3, pos := "stm.go:204", after := _, guard := some (12, false) }) (v := ?vjr26) rfl (by kernel_rfl) (by kernel_rfl) (by kernel_rfl) (fun _ _ _ h => h) (Or.inl ⟨by rfl, ?hyjr26⟩) (by assumption) ?restjr26
  case hyjr26 => (intro w hSw; (try dsimp only at hSw); go_simp <;> with_reducible rfl)
  try simp only [Act.put, List.setIfInBounds_toArray, List.set_cons_zero, List.set_cons_succ]
  refine wpAnyH_ready (rs := [14]) (by kernel_rfl) (by simp) ?_
  refine AllReadyH.cons (o := { dst := some 23, op := Op.call { callee := Callee.value (Operand.func 43), args := #[Operand.tmp 22], argTypes := #[58] }, type := 76, pos := "stm.go:204", after := _, guard := some (12, false) }) rfl (fun K hK => ?_) AllReadyH.nil
  go_simp
  refine (HME.out _ (Below.refl _ _).drew).mono ?_
  rintro e w1 ⟨rfl, hb1'⟩
  have HB1 := Lib.hid ((Below.refl _ _).drew.trans hb1')
  clear hb1'
  try go_wp2_with fail
  refine hK.out _ _ ?_ (fun hHeldjr14 => ?_)
  · exact HC.out _ HB1.out
  clear hK K hHeldjr
  try simp only [Act.put, List.setIfInBounds_toArray, List.set_cons_zero, List.set_cons_succ]
  refine wpAnyH_take (i := 15) (oi := { dst := some 24, op := Op.nilCheck (Operand.tmp 23), type := 0, pos := "stm.go:204", after := _, guard := some (12, false) }) (v := ?vjr15) rfl (by kernel_rfl) (by kernel_rfl) (by kernel_rfl) (fun _ _ _ h => h) (Or.inl ⟨by rfl, ?hyjr15⟩) (by assumption) ?restjr15
  case hyjr15 => (intro w hSw; (try dsimp only at hSw); go_simp <;> with_reducible rfl)
  try simp only [Act.put, List.setIfInBounds_toArray, List.set_cons_zero, List.set_cons_succ]
  refine wpAnyH_take (i := 16) (oi := { dst := some 25, op := Op.fieldAddr 46 (Operand.tmp 24) 1, type := 0, pos := "stm.go:204", after := _, guard := some (12, false) }) (v := ?vjr16) rfl (by kernel_rfl) (by kernel_rfl) (by kernel_rfl) (fun _ _ _ h => h) (Or.inl ⟨by rfl, ?hyjr16⟩) (by assumption) ?restjr16
  case hyjr16 => (intro w hSw; (try dsimp only at hSw); go_simp <;> with_reducible rfl)
  try simp only [Act.put, List.setIfInBounds_toArray, List.set_cons_zero, List.set_cons_succ]
  refine wpAnyH_take (i := 17) (oi := { dst := some 26, op := Op.load 3 (Operand.tmp 25), type := 3, pos := "stm.go:204", after := _, guard := some (12, false) }) (v := ?vjr17) rfl (by kernel_rfl) (by kernel_rfl) (by kernel_rfl) (fun _ _ _ h => h) (Or.inl ⟨by rfl, ?hyjr17⟩) (by assumption) ?restjr17
  case hyjr17 => (intro w hSw; (try dsimp only at hSw); go_simp <;> with_reducible rfl)
  try simp only [Act.put, List.setIfInBounds_toArray, List.set_cons_zero, List.set_cons_succ]
  refine wpAnyH_take (i := 27) (oi := { dst := some 36, op := Op.binOp BinOp.geq 3 (Operand.tmp 26) (Operand.tmp 35) 3, type := 4, pos := "stm.go:204", after := _, guard := some (12, false) }) (v := .bool false) rfl (by kernel_rfl) (by kernel_rfl) (by kernel_rfl) (fun _ _ _ h => h) (Or.inl ⟨by rfl, ?hyjr27⟩) (by assumption) ?restjr27
  case hyjr27 => (intro w hSw; (try dsimp only at hSw); go_simp <;> first | done | with_reducible rfl | omega | (simp; done) | (simp; omega) | (simp [*]; done) | (simp [*]; omega) | exact decide_eq_false (by omega) | exact decide_eq_true (by omega))
  try simp only [Act.put, List.setIfInBounds_toArray, List.set_cons_zero, List.set_cons_succ]
  refine wpAnyH_take (i := 28) (oi := { dst := some 37, op := Op.pick (Operand.tmp 21) (Operand.const (Value.bool true)) (Operand.tmp 36), type := 4, pos := "stm.go:204", after := _, guard := none }) (v := ?vjr28) rfl (by kernel_rfl) (by kernel_rfl) (by kernel_rfl) (fun _ _ _ h => h) (Or.inl ⟨by rfl, ?hyjr28⟩) (by assumption) ?restjr28
  case hyjr28 => (intro w hSw; (try dsimp only at hSw); go_simp <;> with_reducible rfl)
  try simp only [Act.put, List.setIfInBounds_toArray, List.set_cons_zero, List.set_cons_succ]
  refine wpAnyH_done (by kernel_rfl) ?_ _

  obtain ⟨fs, hfs⟩ : ∃ fs : Array Value, fs = #[.func (.func 44) #[.pointer (some ⟨r, 0, none⟩)] #[], .func (.func 45) #[.pointer (some ⟨r, 0, none⟩)] #[], .func (.func 46) #[.pointer (some ⟨r, 0, none⟩)] #[], .func (.func 47) #[.pointer (some ⟨r, 0, none⟩)] #[], .func (.func 48) #[.pointer (some ⟨r, 0, none⟩)] #[], .func (.func 49) #[.pointer (some ⟨r, 0, none⟩)] #[]] := ⟨_, rfl⟩
  have HF := Lib.hid hfs
  clear hfs
  go_wp2_with (refine wpList_store_new rfl 78 _ _ rfl fs (by rfl) (by rw [HF.out]; rfl) (by rw [HF.out]; rfl) (by rw [HF.out]; exact ways_size) (by rw [HF.out]; simp [Value.oneCell']) ?_; intro w2 hB2 hb2; have HB2 := Lib.hid hB2; have hW2 := HB1.out.trans (hb2.mono HB1.out.size); have HW2 := Lib.hid hW2; clear hB2 hb2 hW2)
  refine (HME.out _ HW2.out).mono ?_
  rintro e w3 ⟨rfl, hb3⟩
  have HB3 := Lib.hid hb3
  have HW3 := Lib.hid (HW2.out.trans (hb3.mono HW2.out.size))
  have q0 := HC0.out _ HW3.out
  have qf : w3.cell? ⟨w1.heap.size, 5, none⟩ = some (.func (.func 49) #[.pointer (some ⟨r, 0, none⟩)] #[]) := by rw [(HB2.out.keep HB3.out).cell, HF.out]; rfl
  have H3 := Lib.hid (HR.out.keep HW3.out)
  have hl1 : w1.heap.size < w3.heap.size := (HB2.out.keep HB3.out).lt
  clear hb3
  go_wp2_with fail
  refine (HMM.out _ _ H3.out rfl).mono ?_
  rintro e w4 ⟨rfl, φ4, a4, m4, h4, e4⟩
  have H4 := Lib.hid h4
  have HE4 := Lib.hid e4
  clear h4 e4
  go_wp2
  go_end0
  exact ⟨rfl, _, _, _, H4.out, HE4.out⟩

theorem step_any {who0 : Int} (h : RunW w0 w r φ a m pw pm pv who0) (who : Int) {pl : List (List (List Ac))} {words : Nat} {mx : Int} (hpl : PlV w0 pv pl) (hp : PlanOk words mx pl) (hg : Good words pl m) (hH : m.H.length ≤ 1000) :
    Calls Try.prog 24 #[.pointer (some ⟨r, 0, none⟩), .int .i64 who] w (StepPost w0 r (stepM pl m who) pw pm pv who) := by
  by_cases h0 : who < 0
  · have e : stepM pl m who = m := by unfold stepM; rw [if_neg (by omega)]
    rw [e]; exact step_neg h who h0
  by_cases h1 : (m.T.length : Int) ≤ who
  · have e : stepM pl m who = m := by
      unfold stepM stepK
      rw [if_pos (by omega), List.getElem?_eq_none (by omega)]
    rw [e]; exact step_out h who (by omega) h1
  obtain ⟨k, rfl⟩ : ∃ k : Nat, who = (k : Int) := ⟨who.toNat, by omega⟩
  have hkT : k < m.T.length := by omega
  have hkp : k < pl.length := by rw [← hg.T]; exact hkT
  obtain ⟨t, hk⟩ : ∃ t, m.T[k]? = some t := ⟨_, List.getElem?_eq_getElem hkT⟩
  obtain ⟨txs, htxs⟩ : ∃ t, pl[k]? = some t := ⟨_, List.getElem?_eq_getElem hkp⟩
  have gt := hg.ts k t txs hk htxs
  have hx0 := gt.x0
  have hx1 := gt.x1
  have hmt : txs ∈ pl := List.mem_of_getElem? htxs
  have htx4 := hp.tx4 txs hmt
  obtain ⟨x, hx⟩ : ∃ x : Nat, t.tx = (x : Int) := ⟨t.tx.toNat, by omega⟩
  have hstep : stepM pl m (k : Int) = if t.tx < txs.length then doM txs m k t else m := by
    unfold stepM stepK
    rw [if_pos (by omega), Int.toNat_natCast, hk, htxs]
  by_cases hlt : txs.length ≤ x
  · have e : stepM pl m (k : Int) = m := by rw [hstep, if_neg (by omega)]
    rw [e]; exact step_idle h hk hpl htxs x hx hlt
  have hxl : x < txs.length := by omega
  have e : stepM pl m (k : Int) = doM txs m k t := by rw [hstep, if_pos (by omega)]
  rw [e]
  have hk4 : k < 4 := by have := hp.p4; omega
  have ehl : txs.getD t.tx.toNat [] = txs[x] := by rw [hx, Int.toNat_natCast]; simp [List.getD, hxl]
  have hl6 : txs[x].length ≤ 6 := hp.ac6 txs hmt _ (List.getElem_mem hxl)
  have c1 := gt.c1
  rw [ehl] at c1
  have c0 := gt.c0
  have rl := gt.rl
  have wl := gt.wl
  have hR : t.R.length ≤ 1000 := by omega
  have hW : t.W.length ≤ 1000 := by omega
  have htx : 0 ≤ t.tx ∧ t.tx ≤ 1000 := ⟨by omega, by omega⟩
  have hmay := hg.may
  have hL8 : m.L.length ≤ 8 := (may_iff.1 hmay).2.2.2.2.1
  have s0 := gt.s0
  have s5 := gt.s5
  have hi0 := gt.i0
  by_cases hs0 : t.st = 0
  · refine step_begin h hk hpl htxs x hx hxl hs0 (fun W a' hW' ha => ?_)
    have ed : doM txs m k t = beginM m k t := by unfold doM; rw [if_pos hs0]
    rw [ed]
    subst ha
    refine (begin_any hW' hk ⟨gt.y0, by have := gt.y3; omega⟩).mono fun e w' he => ?_
    exact ⟨he.1, _, _, _, he.2, rfl⟩
  by_cases hs1 : t.st = 1
  · refine step_work h hk hpl htxs x hx hxl hs1 (fun W a' hW' ha => ?_)
    have ed : doM txs m k t = workM txs[x] m k t := by unfold doM; rw [if_neg hs0, if_pos hs1, ehl]
    rw [ed]
    subst ha
    exact work_any hW' hk hpl htxs x hx (List.getElem?_eq_getElem hxl) (by omega) (by omega) t.pc.toNat (by omega) (by omega) (by rw [hg.W, hg.L]) (fun ac hac => by
      have := hp.acs txs hmt _ (List.getElem_mem hxl) ac (List.mem_of_getElem? hac)
      exact ⟨this.d0, this.d3⟩) hH hR hW
  by_cases hs2 : t.st = 2
  · refine step_hold h hk hpl htxs x hx hxl hs2 (fun W a' hW' ha => ?_)
    have ed : doM txs m k t = holdM m k t := by unfold doM; rw [if_neg hs0, if_neg hs1, if_pos hs2]
    rw [ed]
    subst ha
    have := gt.i2 hs2
    exact hold_any hW' hk hmay hk4 hH hR hW htx t.i.toNat (by omega) (by omega)
  by_cases hs3 : t.st = 3
  · refine step_tick h hk hpl htxs x hx hxl hs3 (fun W a' hW' ha => ?_)
    have ed : doM txs m k t = tickM m k t := by unfold doM; rw [if_neg hs0, if_neg hs1, if_neg hs2, if_pos hs3]
    rw [ed]
    subst ha
    exact tick_any hW' hk hmay hk4 hH hR hW htx
  by_cases hs4 : t.st = 4
  · refine step_check h hk hpl htxs x hx hxl hs4 (fun W a' hW' ha => ?_)
    have ed : doM txs m k t = checkM m k t := by unfold doM; rw [if_neg hs0, if_neg hs1, if_neg hs2, if_neg hs3, if_pos hs4]
    rw [ed]
    subst ha
    have := gt.i4 hs4
    exact check_any hW' hk hmay hk4 hH hR hW htx t.i.toNat (by omega) (by omega)
  have hs5 : t.st = 5 := by omega
  refine step_back h hk hpl htxs x hx hxl hs5 (fun W a' hW' ha => ?_)
  have ed : doM txs m k t = backM m k t := by unfold doM; rw [if_neg hs0, if_neg hs1, if_neg hs2, if_neg hs3, if_neg hs4]
  rw [ed]
  subst ha
  have hi5 := gt.i5 hs5
  have hil : t.i.toNat < t.W.length := by omega
  have hwa := gt.wa _ (List.getElem_mem hil)
  exact back_any hW' hk hL8 htx hW t.i.toNat (by omega) _ (List.getElem?_eq_getElem hil) (t.W[t.i.toNat]).at_.toNat (by omega) (by rw [hg.W]; omega)

end
end Go.Proofs.Ytngimbfojccikaa
