/- begin: a try begins. -/
import Derived.Test.YtmcbnpeihedcaaaStOver
namespace Go.Proofs.Ytmcbnpeihedcaaa
set_option linter.unusedSimpArgs false
open Go Go.RowKit
set_option linter.unusedVariables false
set_option maxRecDepth 100000

section
variable {w0 w w' : World} {r : Nat} {φ : Nat → Nat} {a : Ad} {m : Mm} {pw pm : Int} {pv : Value}

set_option maxHeartbeats 4000000 in
theorem begin_any {k : Nat} {t : Tx} (h : RunW w0 w r φ a m pw pm pv (k : Int)) (hk : m.T[k]? = some t) (htry : 0 ≤ t.try_ ∧ t.try_ ≤ 1000) :
    Calls Try.prog 42 #[.pointer (some ⟨r, 0, none⟩)] w fun e w' => e = .returned (.tuple #[]) ∧ RunW w0 w' r φ a (beginM m k t) pw pm pv (k : Int) := by
  have HME := Lib.hid (me_any h hk)
  have hT := h.apart.2.2.2.1
  have hR := h.apart.2.2.2.2.2
  have hne := h.apart.1
  have HH := Lib.hid h
  have HK := Lib.hid hk
  have hwr : IntKind.i64.wrap (t.try_ + 1) = t.try_ + 1 := by rw [IntKind.wrap_i64]; omega
  clear h hk
  go_enter Try.func42, Try.ntmps42
  go_wp2_with fail
  refine HME.out.mono ?_
  rintro e w1 ⟨rfl, hb1⟩
  have H1 := Lib.hid (HH.out.keep hb1)
  have hz1 := hb1.size
  have hT1 : a.gT < w1.heap.size := by omega
  have hR1 : r < w1.heap.size := by omega
  have hne' : ¬ r = a.gT := fun e => hne e.symm
  have d2 := H1.out.tcells HK.out (j := 2) rfl
  have f2 := H1.out.tfree (k * 11 + 2)
  have f4 := H1.out.tfree (k * 11 + 4)
  have f10 := H1.out.tfree (k * 11 + 10)
  have f0 := H1.out.tfree (k * 11)
  have d4 := H1.out.tcells HK.out (j := 4) rfl
  have d10 := H1.out.tcells HK.out (j := 10) rfl
  have d0 := H1.out.tcells HK.out (j := 0) rfl
  have r1 : w1.cell? ⟨r, 1, none⟩ = some (.int .i64 m.now) := H1.out.rcells 1
  have r6 : w1.cell? ⟨r, 6, none⟩ = some (.int .i64 m.time) := H1.out.rcells 6
  simp only [Nat.add_zero] at d0
  clear hb1 HH HME
  go_wp2_with fail
  refine wp_region_held_drew (S := fun w' => w'.cell? ⟨r, 1, none⟩ = some (.int .i64 m.now) ∧ w'.cell? ⟨r, 6, none⟩ = some (.int .i64 m.time)) (by kernel_rfl) ?_ (fun hHeldbr => ?_)
  · constructor <;> go_simp
  refine tkW 0 { dst := some 12, op := Op.move (Operand.tmp 2), type := 84, pos := "stm.go:118", after := _, guard := none } (v := ?vbr0) rfl (Or.inl ⟨by rfl, ?hybr0⟩) ?restbr0
  case hybr0 => (intro w hSw; (try dsimp only at hSw); go_simp <;> with_reducible rfl)
  try simp only [putW, setZ, setS]
  refine tkW 1 { dst := some 13, op := Op.move (Operand.tmp 2), type := 84, pos := "stm.go:118", after := _, guard := none } (v := ?vbr1) rfl (Or.inl ⟨by rfl, ?hybr1⟩) ?restbr1
  case hybr1 => (intro w hSw; (try dsimp only at hSw); go_simp <;> with_reducible rfl)
  try simp only [putW, setZ, setS]
  refine tkW 2 { dst := some 14, op := Op.move (Operand.tmp 2), type := 84, pos := "stm.go:118", after := _, guard := none } (v := ?vbr2) rfl (Or.inl ⟨by rfl, ?hybr2⟩) ?restbr2
  case hybr2 => (intro w hSw; (try dsimp only at hSw); go_simp <;> with_reducible rfl)
  try simp only [putW, setZ, setS]
  refine tkW 3 { dst := some 15, op := Op.move (Operand.tmp 0), type := 68, pos := "stm.go:118", after := _, guard := none } (v := ?vbr3) rfl (Or.inl ⟨by rfl, ?hybr3⟩) ?restbr3
  case hybr3 => (intro w hSw; (try dsimp only at hSw); go_simp <;> with_reducible rfl)
  try simp only [putW, setZ, setS]
  refine tkW 4 { dst := some 16, op := Op.nilCheck (Operand.tmp 15), type := 0, pos := "stm.go:118", after := _, guard := none } (v := ?vbr4) rfl (Or.inl ⟨by rfl, ?hybr4⟩) ?restbr4
  case hybr4 => (intro w hSw; (try dsimp only at hSw); go_simp <;> with_reducible rfl)
  try simp only [putW, setZ, setS]
  refine tkW 5 { dst := some 17, op := Op.fieldAddr 70 (Operand.tmp 16) 0, type := 0, pos := "stm.go:118", after := _, guard := none } (v := ?vbr5) rfl (Or.inl ⟨by rfl, ?hybr5⟩) ?restbr5
  case hybr5 => (intro w hSw; (try dsimp only at hSw); go_simp <;> with_reducible rfl)
  try simp only [putW, setZ, setS]
  refine tkW 6 { dst := some 18, op := Op.fieldAddr 46 (Operand.tmp 17) 1, type := 0, pos := "stm.go:118", after := _, guard := none } (v := ?vbr6) rfl (Or.inl ⟨by rfl, ?hybr6⟩) ?restbr6
  case hybr6 => (intro w hSw; (try dsimp only at hSw); go_simp <;> with_reducible rfl)
  try simp only [putW, setZ, setS]
  refine tkW 7 { dst := some 19, op := Op.fieldAddr 43 (Operand.tmp 18) 0, type := 0, pos := "stm.go:118", after := _, guard := none } (v := ?vbr7) rfl (Or.inl ⟨by rfl, ?hybr7⟩) ?restbr7
  case hybr7 => (intro w hSw; (try dsimp only at hSw); go_simp <;> with_reducible rfl)
  try simp only [putW, setZ, setS]
  refine tkW 8 { dst := some 20, op := Op.load 3 (Operand.tmp 19), type := 3, pos := "stm.go:118", after := _, guard := none } (v := ?vbr8) rfl (Or.inl ⟨by rfl, ?hybr8⟩) ?restbr8
  case hybr8 => (intro w hSw; (try dsimp only at hSw); go_simp <;> with_reducible rfl)
  try simp only [putW, setZ, setS]
  refine tkW 9 { dst := some 21, op := Op.move (Operand.tmp 0), type := 68, pos := "stm.go:118", after := _, guard := none } (v := ?vbr9) rfl (Or.inl ⟨by rfl, ?hybr9⟩) ?restbr9
  case hybr9 => (intro w hSw; (try dsimp only at hSw); go_simp <;> with_reducible rfl)
  try simp only [putW, setZ, setS]
  refine tkW 10 { dst := some 22, op := Op.nilCheck (Operand.tmp 21), type := 0, pos := "stm.go:118", after := _, guard := none } (v := ?vbr10) rfl (Or.inl ⟨by rfl, ?hybr10⟩) ?restbr10
  case hybr10 => (intro w hSw; (try dsimp only at hSw); go_simp <;> with_reducible rfl)
  try simp only [putW, setZ, setS]
  refine tkW 11 { dst := some 23, op := Op.fieldAddr 70 (Operand.tmp 22) 0, type := 0, pos := "stm.go:118", after := _, guard := none } (v := ?vbr11) rfl (Or.inl ⟨by rfl, ?hybr11⟩) ?restbr11
  case hybr11 => (intro w hSw; (try dsimp only at hSw); go_simp <;> with_reducible rfl)
  try simp only [putW, setZ, setS]
  refine tkW 12 { dst := some 24, op := Op.fieldAddr 46 (Operand.tmp 23) 4, type := 0, pos := "stm.go:118", after := _, guard := none } (v := ?vbr12) rfl (Or.inl ⟨by rfl, ?hybr12⟩) ?restbr12
  case hybr12 => (intro w hSw; (try dsimp only at hSw); go_simp <;> with_reducible rfl)
  try simp only [putW, setZ, setS]
  refine tkW 13 { dst := some 25, op := Op.load 3 (Operand.tmp 24), type := 3, pos := "stm.go:118", after := _, guard := none } (v := ?vbr13) rfl (Or.inl ⟨by rfl, ?hybr13⟩) ?restbr13
  case hybr13 => (intro w hSw; (try dsimp only at hSw); go_simp <;> with_reducible rfl)
  try simp only [putW, setZ, setS]
  refine tkW 14 { dst := some 26, op := Op.nilCheck (Operand.tmp 12), type := 0, pos := "stm.go:118", after := _, guard := none } (v := ?vbr14) rfl (Or.inl ⟨by rfl, ?hybr14⟩) ?restbr14
  case hybr14 => (intro w hSw; (try dsimp only at hSw); go_simp <;> with_reducible rfl)
  try simp only [putW, setZ, setS]
  refine tkW 15 { dst := some 27, op := Op.fieldAddr 52 (Operand.tmp 26) 4, type := 0, pos := "stm.go:118", after := _, guard := none } (v := ?vbr15) rfl (Or.inl ⟨by rfl, ?hybr15⟩) ?restbr15
  case hybr15 => (intro w hSw; (try dsimp only at hSw); go_simp <;> with_reducible rfl)
  try simp only [putW, setZ, setS]
  refine wpAnyH_ready (rs := [16]) (by kernel_rfl) (by simp) ?_
  refine AllReadyH.cons (o := { dst := none, op := Op.store 3 (Operand.tmp 27) (Operand.tmp 20), type := 0, pos := "stm.go:118", after := _, guard := none }) rfl (fun K hK => ?_) AllReadyH.nil
  go_simp
  skip
  refine hK.out _ _ ?_ (fun hHeldbr16 => ?_)
  · constructor <;> go_simp
  clear hK K hHeldbr
  try simp only [Act.put, List.setIfInBounds_toArray, List.set_cons_zero, List.set_cons_succ]
  refine tkW 17 { dst := some 28, op := Op.nilCheck (Operand.tmp 13), type := 0, pos := "stm.go:118", after := _, guard := none } (v := ?vbr17) rfl (Or.inl ⟨by rfl, ?hybr17⟩) ?restbr17
  case hybr17 => (intro w hSw; (try dsimp only at hSw); go_simp <;> with_reducible rfl)
  try simp only [putW, setZ, setS]
  refine tkW 18 { dst := some 29, op := Op.fieldAddr 52 (Operand.tmp 28) 10, type := 0, pos := "stm.go:118", after := _, guard := none } (v := ?vbr18) rfl (Or.inl ⟨by rfl, ?hybr18⟩) ?restbr18
  case hybr18 => (intro w hSw; (try dsimp only at hSw); go_simp <;> with_reducible rfl)
  try simp only [putW, setZ, setS]
  refine wpAnyH_ready (rs := [19]) (by kernel_rfl) (by simp) ?_
  refine AllReadyH.cons (o := { dst := none, op := Op.store 3 (Operand.tmp 29) (Operand.tmp 25), type := 0, pos := "stm.go:118", after := _, guard := none }) rfl (fun K hK => ?_) AllReadyH.nil
  go_simp
  skip
  refine hK.out _ _ ?_ (fun hHeldbr19 => ?_)
  · constructor <;> go_simp
  clear hK K hHeldbr16
  try simp only [Act.put, List.setIfInBounds_toArray, List.set_cons_zero, List.set_cons_succ]
  refine tkW 20 { dst := some 30, op := Op.nilCheck (Operand.tmp 14), type := 0, pos := "stm.go:118", after := _, guard := none } (v := ?vbr20) rfl (Or.inl ⟨by rfl, ?hybr20⟩) ?restbr20
  case hybr20 => (intro w hSw; (try dsimp only at hSw); go_simp <;> with_reducible rfl)
  try simp only [putW, setZ, setS]
  refine tkW 21 { dst := some 31, op := Op.fieldAddr 52 (Operand.tmp 30) 0, type := 0, pos := "stm.go:118", after := _, guard := none } (v := ?vbr21) rfl (Or.inl ⟨by rfl, ?hybr21⟩) ?restbr21
  case hybr21 => (intro w hSw; (try dsimp only at hSw); go_simp <;> with_reducible rfl)
  try simp only [putW, setZ, setS]
  refine wpAnyH_ready (rs := [22]) (by kernel_rfl) (by simp) ?_
  refine AllReadyH.cons (o := { dst := none, op := Op.store 3 (Operand.tmp 31) (Operand.const (Value.int IntKind.i64 1)), type := 0, pos := "stm.go:118", after := _, guard := none }) rfl (fun K hK => ?_) AllReadyH.nil
  go_simp
  skip
  refine hK.out _ _ ?_ (fun hHeldbr22 => ?_)
  · constructor <;> go_simp
  clear hK K hHeldbr19
  try simp only [Act.put, List.setIfInBounds_toArray, List.set_cons_zero, List.set_cons_succ]
  refine wpAnyH_done (by kernel_rfl) ?_ _
  go_wp2
  go_end0
  have hlt := H1.out.tlt HK.out
  refine ⟨rfl, ?_⟩
  have e1 := ((((((H1.out.tc0 HK.out).tc hlt { t with try_ := t.try_ + 1 } (j := 2) (by omega) rfl ⟨rfl, rfl, rfl, rfl, rfl, rfl⟩).keep (Below.refl _ _).drew).tc hlt { t with try_ := t.try_ + 1, rv := m.now } (j := 4) (by omega) rfl ⟨rfl, rfl, rfl, rfl, rfl, rfl⟩).tc hlt { t with try_ := t.try_ + 1, rv := m.now, fr := m.time } (j := 10) (by omega) rfl ⟨rfl, rfl, rfl, rfl, rfl, rfl⟩).tc hlt { t with try_ := t.try_ + 1, rv := m.now, fr := m.time, st := 1 } (j := 0) (by omega) rfl ⟨rfl, rfl, rfl, rfl, rfl, rfl⟩)
  exact e1
end
end Go.Proofs.Ytmcbnpeihedcaaa
