/- serial.Real. -/
import Derived.Test.YtmcbnpeihedcaaaSrWriters
import Derived.Test.YtmcbnpeihedcaaaCopy
namespace Go.Proofs.Ytmcbnpeihedcaaa
open Go Go.RowKit
set_option linter.unusedVariables false
attribute [local go_sem ↓] Go.wp_at_zero Go.wp_at_succ

theorem real1_any (x : Rx) (w : World) : Calls Try.prog 23 #[.agg (encRx x).toArray] w fun e w' => e = .returned (.bool (x.en != 0)) ∧ Below w.heap.size w w' := by
  have hb0 : Below w.heap.size w (w.alloc (.cells (encRx x).toArray 27)) := (Below.refl _ w).alloc (Nat.le_refl _) _
  simp only [encRx] at hb0 ⊢
  go_enter Try.func23, Try.ntmps23
  go_wp2
  go_ret
  exact ⟨rfl, hb0⟩

/-- Is it of the second that the first one is behind, and should not be? -/
def badQ (i k : Nat) (a b : Rx) : Bool := decide (i ≠ k) && (decide (a.to_ < b.fr) && (decide (lastX b < lastX a) || (writesX b && decide (lastX a = lastX b))))
def fineQ (l : List Rx) (i k : Nat) : Prop := ∀ a ∈ l[i]?, ∀ b ∈ l[k]?, badQ i k a b = false
instance (l : List Rx) (i k : Nat) : Decidable (fineQ l i k) := by unfold fineQ; infer_instance
def realL (h : List Rx) : Bool := decide (∀ i < (h.filter (fun x => x.en == 0)).length, ∀ k < (h.filter (fun x => x.en == 0)).length, fineQ (h.filter (fun x => x.en == 0)) i k)

theorem range_blk {w : World} {g : Nat} {t : TypeId} {cs : List Value} (h : Blk w g t cs.toArray) : w.rangeAt g 0 cs := fun j v hv => by
  rw [Nat.zero_add, h.cell, List.getElem?_toArray]; exact hv
theorem rs_of {W : World} {B D : Nat} {a y : Rx} (h1 : Blk W B 27 (encRx a).toArray) (h2 : Blk W D 27 (encRx y).toArray) :
    W.cell? ⟨B, 9, none⟩ = some (.int .i64 a.to_) ∧ W.cell? ⟨D, 8, none⟩ = some (.int .i64 y.fr) ∧ Blk W B 27 (encRx a).toArray ∧ Blk W D 27 (encRx y).toArray :=
  ⟨by rw [h1.cell]; rfl, by rw [h2.cell]; rfl, h1, h2⟩

set_option maxRecDepth 100000 in
set_option maxHeartbeats 4000000 in
theorem real_any (v : Value) (h : List Rx) (w : World) (hv : RecsV w v h) (hl : h.length ≤ 100000) :
    Calls Try.prog 14 #[v] w fun e w' => e = .returned (.bool (realL h)) ∧ Below w.heap.size w w' := by
  have e1 : ∀ args w, (callFunc 23 args).run Try.prog w = .ok (.enter 23 args) w := enters_of Try.func23 (by kernel_rfl) rfl
  have HC := Lib.hid (clone_rec v h.length _ w hv.1 (encRx_one h) (by omega))
  have HD := Lib.hid (fun base v l w h1 h2 h3 => del_rec (fun x => x.en != 0) 23 #[] e1 base v l w h1 h2 (fun W x => real1_any x W) h3)
  obtain ⟨r, hr⟩ : ∃ r, r = realL h := ⟨_, rfl⟩
  rw [← hr]
  unfold realL at hr
  have HR := Lib.hid hr
  clear hv e1 hr
  go_enter Try.func14, Try.ntmps14
  go_wp2_with fail
  refine HC.out.mono ?_
  rintro e w1 ⟨v1, rfl, hO1, hB1⟩
  have HO1 := Lib.hid hO1
  have HB1 := Lib.hid hB1
  clear hO1 hB1
  go_wp2_with fail
  refine (HD.out w.heap.size v1 h _ HB1.out.size hl HO1.out).mono ?_
  rintro e w2 ⟨v2, rfl, hO2, hB2⟩
  have hO2 : w2.ownsRow w.heap.size 27 10 v2 (h.filter (fun x => x.en == 0)).length ((h.filter (fun x => x.en == 0)).flatMap encRx) := by
    have e : (fun x : Rx => !(x.en != 0)) = (fun x => x.en == 0) := by funext x; exact Bool.not_not _
    rw [← e]; exact hO2
  have HB2 := Lib.hid (HB1.out.trans hB2)
  have hfl := List.length_filter_le (fun x : Rx => x.en == 0) h
  generalize h.filter (fun x => x.en == 0) = l at *
  have hS := Sl.of_own hO2
  obtain ⟨A, c, rfl, hlc, hcm⟩ := hS.form
  have HP := Lib.hid (fun h0 : 0 < l.length => Sl.pos encRx encRx_len hS h0)
  obtain ⟨n, hn⟩ : ∃ n, n = l.length := ⟨_, rfl⟩
  have HN := Lib.hid hn
  have hnl : n ≤ 100000 := by omega
  rw [← hn] at HR ⊢
  have HT := Lib.hid (show (∀ i < n, ∀ k < n, fineQ l i k) → r = true from fun h => by rw [HR.out]; exact decide_eq_true h)
  have HF := Lib.hid (show ∀ i k, i < n → k < n → ¬ fineQ l i k → r = false from fun i k hi hk h => by rw [HR.out]; exact decide_eq_false (fun h2 => h (h2 i hi k hk)))
  clear hO2 hB2 hS hfl hlc hcm hn HR
  go_wp2_with fail
  go_loopg [13] n (fun gg s13 wr => ∃ i : Nat, s13 = .int .i64 i ∧ i ≤ n ∧ n - i ≤ gg ∧ Hid ((∀ i' < i, ∀ k < n, fineQ l i' k) ∧ Below w.heap.size w wr ∧ Below w2.heap.size w2 wr))
  case atStart => exact ⟨0, by go_num, by omega, by omega, fun _ h => absurd h (Nat.not_lt_zero _), HB2.out, Below.refl _ _⟩
  case round =>
    obtain ⟨i, rfl, hin, hg, HI⟩ := hrel
    by_cases hlt : i < n
    · have hltz : (i : Int) < (n : Int) := by omega
      have hi0 : (0 : Int) ≤ (i : Int) := by omega
      have hil : i < l.length := by have := HN.out; omega
      obtain ⟨B, hB⟩ : ∃ B, B = wr.heap.size := ⟨_, rfl⟩
      obtain ⟨b, o, hA, hbl, hel⟩ := HP.out (by omega)
      subst hA
      have HEL := Lib.hid hel
      have HA0 := Lib.hid (List.getElem?_eq_getElem hil)
      have hei := hel wr HI.out.2.2 i hil
      generalize l[i] = a at *
      have c0 := hei 0 _ rfl
      have c1 := hei 1 _ rfl
      have c2 := hei 2 _ rfl
      have c3 := hei 3 _ rfl
      have c4 := hei 4 _ rfl
      have c5 := hei 5 _ rfl
      have c6 := hei 6 _ rfl
      have c7 := hei 7 _ rfl
      have c8 := hei 8 _ rfl
      have c9 := hei 9 _ rfl
      simp only [Nat.add_zero] at c0
      clear hel hei
      go_wp2_with fail
      rw [← hB]
      have HBE := Lib.hid hB
      clear hB
      go_loopg [20] n (fun gg s20 wr => ∃ k : Nat, s20 = .int .i64 k ∧ k ≤ n ∧ n - k ≤ gg ∧ Hid ((∀ k' < k, fineQ l i k') ∧ Below w.heap.size w wr ∧ Below w2.heap.size w2 wr ∧ Blk wr B 27 (encRx a).toArray))
      case atStart => exact ⟨0, by go_num, by omega, by omega, (show Hid _ from ⟨fun _ h => absurd h (Nat.not_lt_zero _), HI.out.2.1.alloc HI.out.2.1.size _, HI.out.2.2.alloc HI.out.2.2.size _, Blk.new_ _ _ _ _ HBE.out.symm⟩)⟩
      case round =>
        obtain ⟨k, rfl, hkn, hg2, HJ⟩ := hrel
        clear c0 c1 c2 c3 c4 c5 c6 c7 c8 c9
        by_cases hk : k < n
        · have hkz : (k : Int) < (n : Int) := by omega
          have hk0 : (0 : Int) ≤ (k : Int) := by omega
          have hkl : k < l.length := by have := HN.out; omega
          have HY0 := Lib.hid (List.getElem?_eq_getElem hkl)
          have hel := HEL.out wr HJ.out.2.2.1 k hkl
          generalize l[k] = y at *
          have d0 := hel 0 _ rfl
          have d1 := hel 1 _ rfl
          have d2 := hel 2 _ rfl
          have d3 := hel 3 _ rfl
          have d4 := hel 4 _ rfl
          have d5 := hel 5 _ rfl
          have d6 := hel 6 _ rfl
          have d7 := hel 7 _ rfl
          have d8 := hel 8 _ rfl
          have d9 := hel 9 _ rfl
          simp only [Nat.add_zero] at d0
          clear hel
          obtain ⟨D, hD⟩ : ∃ D, D = wr.heap.size := ⟨_, rfl⟩
          obtain ⟨wq, hwq⟩ : ∃ wq, wq = wr.alloc (.cells (encRx y).toArray 27) := ⟨_, rfl⟩
          have HBA := Lib.hid (show Blk wq B 27 (encRx a).toArray from hwq ▸ HJ.out.2.2.2.alloc _)
          have HBD := Lib.hid (show Blk wq D 27 (encRx y).toArray from hwq ▸ Blk.new_ _ _ _ _ hD.symm)
          have HWZ := Lib.hid (show Below wr.heap.size wr wq from hwq ▸ (Below.refl _ _).alloc (Nat.le_refl _) _)
          have HNX := Lib.hid (fun W' (h : Below wq.heap.size wq W') => (show Below w.heap.size w W' ∧ Below w2.heap.size w2 W' ∧ Blk W' B 27 (encRx a).toArray from
            have hz := HWZ.out.trans (h.mono HWZ.out.size)
            ⟨HJ.out.2.1.trans (hz.mono HJ.out.2.1.size), HJ.out.2.2.1.trans (hz.mono HJ.out.2.2.1.size), HJ.out.2.2.2.keep hz⟩))
          have HST := Lib.hid (show badQ i k a y = false → ∀ k' < k + 1, fineQ l i k' from fun h k' hk' => by
            rcases Nat.lt_or_ge k' k with h1 | h1
            · exact HJ.out.1 k' h1
            · obtain rfl : k' = k := by omega
              intro a' ha' b' hb'
              rw [HA0.out] at ha'; rw [HY0.out] at hb'
              cases ha'; cases hb'; exact h)
          simp only [encRx] at hwq
          go_wp2_with fail
          rw [← hwq, ← hD]
          clear hwq hD d0 d1 d2 d3 d4 d5 d6 d7 d8 d9
          by_cases hik : i = k
          · subst hik
            have HBAD := Lib.hid (show badQ i i a y = false from by unfold badQ; simp)
            refine wp_region_held_drew (S := fun w' => w'.cell? ⟨B, 9, none⟩ = some (.int .i64 a.to_) ∧ w'.cell? ⟨D, 8, none⟩ = some (.int .i64 y.fr) ∧ Blk w' B 27 (encRx a).toArray ∧ Blk w' D 27 (encRx y).toArray) (by kernel_rfl) ?_ (fun hHeldbr => ?_)
            · exact rs_of HBA.out.drew HBD.out.drew
            refine wpAnyH_take (i := 0) (oi := { dst := some 25, op := Op.move (Operand.tmp 4), type := 3, pos := "serial.go:77", after := _, guard := none }) (v := ?vbr0) rfl (by kernel_rfl) (by kernel_rfl) (by kernel_rfl) (fun _ _ _ h => h) (Or.inl ⟨by rfl, ?hybr0⟩) (by assumption) ?restbr0
            case hybr0 => (intro w hSw; (try dsimp only at hSw); go_simp <;> with_reducible rfl)
            try simp only [Act.put, List.setIfInBounds_toArray, List.set_cons_zero, List.set_cons_succ]
            refine wpAnyH_take (i := 1) (oi := { dst := some 26, op := Op.move (Operand.tmp 6), type := 3, pos := "serial.go:77", after := _, guard := none }) (v := ?vbr1) rfl (by kernel_rfl) (by kernel_rfl) (by kernel_rfl) (fun _ _ _ h => h) (Or.inl ⟨by rfl, ?hybr1⟩) (by assumption) ?restbr1
            case hybr1 => (intro w hSw; (try dsimp only at hSw); go_simp <;> with_reducible rfl)
            try simp only [Act.put, List.setIfInBounds_toArray, List.set_cons_zero, List.set_cons_succ]
            refine wpAnyH_take (i := 2) (oi := { dst := some 27, op := Op.binOp BinOp.neq 3 (Operand.tmp 25) (Operand.tmp 26) 3, type := 4, pos := "serial.go:77", after := _, guard := none }) (v := .bool false) rfl (by kernel_rfl) (by kernel_rfl) (by kernel_rfl) (fun _ _ _ h => h) (Or.inl ⟨by rfl, ?hybr2⟩) (by assumption) ?restbr2
            case hybr2 => (intro w hSw; (try dsimp only at hSw); go_simp <;> first | done | with_reducible rfl | omega | (simp; done) | (simp; omega) | (simp [*]; done) | (simp [*]; omega) | exact decide_eq_false (by omega) | exact decide_eq_true (by omega))
            try simp only [Act.put, List.setIfInBounds_toArray, List.set_cons_zero, List.set_cons_succ]
            refine wpAnyH_take (i := 3) (oi := { dst := some 28, op := Op.move (Operand.tmp 27), type := 4, pos := "serial.go:77", after := _, guard := none }) (v := ?vbr3) rfl (by kernel_rfl) (by kernel_rfl) (by kernel_rfl) (fun _ _ _ h => h) (Or.inl ⟨by rfl, ?hybr3⟩) (by assumption) ?restbr3
            case hybr3 => (intro w hSw; (try dsimp only at hSw); go_simp <;> with_reducible rfl)
            try simp only [Act.put, List.setIfInBounds_toArray, List.set_cons_zero, List.set_cons_succ]
            refine wpAnyH_take (i := 4) (oi := { dst := some 29, op := Op.fieldAddr 27 (Operand.tmp 5) 9, type := 0, pos := "serial.go:77", after := _, guard := some (3, true) }) rfl (by kernel_rfl) (by kernel_rfl) (by kernel_rfl) (fun _ _ _ h => h) (Or.inr ⟨by rfl, rfl⟩) (by assumption) ?_
            try simp only [Act.put, List.setIfInBounds_toArray, List.set_cons_zero, List.set_cons_succ]
            refine wpAnyH_take (i := 5) (oi := { dst := some 30, op := Op.load 3 (Operand.tmp 29), type := 3, pos := "serial.go:77", after := _, guard := some (3, true) }) rfl (by kernel_rfl) (by kernel_rfl) (by kernel_rfl) (fun _ _ _ h => h) (Or.inr ⟨by rfl, rfl⟩) (by assumption) ?_
            try simp only [Act.put, List.setIfInBounds_toArray, List.set_cons_zero, List.set_cons_succ]
            refine wpAnyH_take (i := 6) (oi := { dst := some 31, op := Op.fieldAddr 27 (Operand.tmp 7) 8, type := 0, pos := "serial.go:77", after := _, guard := some (3, true) }) rfl (by kernel_rfl) (by kernel_rfl) (by kernel_rfl) (fun _ _ _ h => h) (Or.inr ⟨by rfl, rfl⟩) (by assumption) ?_
            try simp only [Act.put, List.setIfInBounds_toArray, List.set_cons_zero, List.set_cons_succ]
            refine wpAnyH_take (i := 7) (oi := { dst := some 32, op := Op.load 3 (Operand.tmp 31), type := 3, pos := "serial.go:77", after := _, guard := some (3, true) }) rfl (by kernel_rfl) (by kernel_rfl) (by kernel_rfl) (fun _ _ _ h => h) (Or.inr ⟨by rfl, rfl⟩) (by assumption) ?_
            try simp only [Act.put, List.setIfInBounds_toArray, List.set_cons_zero, List.set_cons_succ]
            refine wpAnyH_take (i := 8) (oi := { dst := some 33, op := Op.binOp BinOp.lss 3 (Operand.tmp 30) (Operand.tmp 32) 3, type := 4, pos := "serial.go:77", after := _, guard := some (3, true) }) rfl (by kernel_rfl) (by kernel_rfl) (by kernel_rfl) (fun _ _ _ h => h) (Or.inr ⟨by rfl, rfl⟩) (by assumption) ?_
            try simp only [Act.put, List.setIfInBounds_toArray, List.set_cons_zero, List.set_cons_succ]
            refine wpAnyH_take (i := 9) (oi := { dst := some 34, op := Op.pick (Operand.tmp 28) (Operand.tmp 33) (Operand.const (Value.bool false)), type := 4, pos := "serial.go:77", after := _, guard := none }) (v := ?vbr9) rfl (by kernel_rfl) (by kernel_rfl) (by kernel_rfl) (fun _ _ _ h => h) (Or.inl ⟨by rfl, ?hybr9⟩) (by assumption) ?restbr9
            case hybr9 => (intro w hSw; (try dsimp only at hSw); go_simp <;> with_reducible rfl)
            try simp only [Act.put, List.setIfInBounds_toArray, List.set_cons_zero, List.set_cons_succ]
            refine wpAnyH_take (i := 10) (oi := { dst := some 35, op := Op.move (Operand.tmp 34), type := 4, pos := "serial.go:77", after := _, guard := none }) (v := ?vbr10) rfl (by kernel_rfl) (by kernel_rfl) (by kernel_rfl) (fun _ _ _ h => h) (Or.inl ⟨by rfl, ?hybr10⟩) (by assumption) ?restbr10
            case hybr10 => (intro w hSw; (try dsimp only at hSw); go_simp <;> with_reducible rfl)
            try simp only [Act.put, List.setIfInBounds_toArray, List.set_cons_zero, List.set_cons_succ]
            refine wpAnyH_take (i := 11) (oi := { dst := some 36, op := Op.load 27 (Operand.tmp 5), type := 27, pos := "serial.go:77", after := _, guard := some (10, true) }) rfl (by kernel_rfl) (by kernel_rfl) (by kernel_rfl) (fun _ _ _ h => h) (Or.inr ⟨by rfl, rfl⟩) (by assumption) ?_
            try simp only [Act.put, List.setIfInBounds_toArray, List.set_cons_zero, List.set_cons_succ]
            refine wpAnyH_take (i := 12) (oi := { dst := some 37, op := Op.call { callee := Callee.value (Operand.func 24), args := #[Operand.tmp 36], argTypes := #[27] }, type := 3, pos := "serial.go:77", after := _, guard := some (10, true) }) rfl (by kernel_rfl) (by kernel_rfl) (by kernel_rfl) (fun _ _ _ h => h) (Or.inr ⟨by rfl, rfl⟩) (by assumption) ?_
            try simp only [Act.put, List.setIfInBounds_toArray, List.set_cons_zero, List.set_cons_succ]
            refine wpAnyH_take (i := 13) (oi := { dst := some 38, op := Op.load 27 (Operand.tmp 7), type := 27, pos := "serial.go:77", after := _, guard := some (10, true) }) rfl (by kernel_rfl) (by kernel_rfl) (by kernel_rfl) (fun _ _ _ h => h) (Or.inr ⟨by rfl, rfl⟩) (by assumption) ?_
            try simp only [Act.put, List.setIfInBounds_toArray, List.set_cons_zero, List.set_cons_succ]
            refine wpAnyH_take (i := 14) (oi := { dst := some 39, op := Op.call { callee := Callee.value (Operand.func 24), args := #[Operand.tmp 38], argTypes := #[27] }, type := 3, pos := "serial.go:77", after := _, guard := some (10, true) }) rfl (by kernel_rfl) (by kernel_rfl) (by kernel_rfl) (fun _ _ _ h => h) (Or.inr ⟨by rfl, rfl⟩) (by assumption) ?_
            try simp only [Act.put, List.setIfInBounds_toArray, List.set_cons_zero, List.set_cons_succ]
            refine wpAnyH_take (i := 15) (oi := { dst := some 40, op := Op.binOp BinOp.gtr 3 (Operand.tmp 37) (Operand.tmp 39) 3, type := 4, pos := "serial.go:77", after := _, guard := some (10, true) }) rfl (by kernel_rfl) (by kernel_rfl) (by kernel_rfl) (fun _ _ _ h => h) (Or.inr ⟨by rfl, rfl⟩) (by assumption) ?_
            try simp only [Act.put, List.setIfInBounds_toArray, List.set_cons_zero, List.set_cons_succ]
            refine wpAnyH_take (i := 16) (oi := { dst := some 41, op := Op.move (Operand.tmp 40), type := 4, pos := "serial.go:77", after := _, guard := some (10, true) }) rfl (by kernel_rfl) (by kernel_rfl) (by kernel_rfl) (fun _ _ _ h => h) (Or.inr ⟨by rfl, rfl⟩) (by assumption) ?_
            try simp only [Act.put, List.setIfInBounds_toArray, List.set_cons_zero, List.set_cons_succ]
            refine wpAnyH_take (i := 17) (oi := { dst := some 42, op := Op.load 27 (Operand.tmp 7), type := 27, pos := "serial.go:77", after := _, guard := some (16, false) }) rfl (by kernel_rfl) (by kernel_rfl) (by kernel_rfl) (fun _ _ _ h => h) (Or.inr ⟨by rfl, rfl⟩) (by assumption) ?_
            try simp only [Act.put, List.setIfInBounds_toArray, List.set_cons_zero, List.set_cons_succ]
            refine wpAnyH_take (i := 18) (oi := { dst := some 43, op := Op.call { callee := Callee.value (Operand.func 25), args := #[Operand.tmp 42], argTypes := #[27] }, type := 4, pos := "serial.go:77", after := _, guard := some (16, false) }) rfl (by kernel_rfl) (by kernel_rfl) (by kernel_rfl) (fun _ _ _ h => h) (Or.inr ⟨by rfl, rfl⟩) (by assumption) ?_
            try simp only [Act.put, List.setIfInBounds_toArray, List.set_cons_zero, List.set_cons_succ]
            refine wpAnyH_take (i := 19) (oi := { dst := some 44, op := Op.move (Operand.tmp 43), type := 4, pos := "serial.go:77", after := _, guard := some (16, false) }) rfl (by kernel_rfl) (by kernel_rfl) (by kernel_rfl) (fun _ _ _ h => h) (Or.inr ⟨by rfl, rfl⟩) (by assumption) ?_
            try simp only [Act.put, List.setIfInBounds_toArray, List.set_cons_zero, List.set_cons_succ]
            refine wpAnyH_take (i := 20) (oi := { dst := some 45, op := Op.load 27 (Operand.tmp 5), type := 27, pos := "serial.go:77", after := _, guard := some (19, true) }) rfl (by kernel_rfl) (by kernel_rfl) (by kernel_rfl) (fun _ _ _ h => h) (Or.inr ⟨by rfl, rfl⟩) (by assumption) ?_
            try simp only [Act.put, List.setIfInBounds_toArray, List.set_cons_zero, List.set_cons_succ]
            refine wpAnyH_take (i := 21) (oi := { dst := some 46, op := Op.call { callee := Callee.value (Operand.func 24), args := #[Operand.tmp 45], argTypes := #[27] }, type := 3, pos := "serial.go:77", after := _, guard := some (19, true) }) rfl (by kernel_rfl) (by kernel_rfl) (by kernel_rfl) (fun _ _ _ h => h) (Or.inr ⟨by rfl, rfl⟩) (by assumption) ?_
            try simp only [Act.put, List.setIfInBounds_toArray, List.set_cons_zero, List.set_cons_succ]
            refine wpAnyH_take (i := 22) (oi := { dst := some 47, op := Op.load 27 (Operand.tmp 7), type := 27, pos := "serial.go:77", after := _, guard := some (19, true) }) rfl (by kernel_rfl) (by kernel_rfl) (by kernel_rfl) (fun _ _ _ h => h) (Or.inr ⟨by rfl, rfl⟩) (by assumption) ?_
            try simp only [Act.put, List.setIfInBounds_toArray, List.set_cons_zero, List.set_cons_succ]
            refine wpAnyH_take (i := 23) (oi := { dst := some 48, op := Op.call { callee := Callee.value (Operand.func 24), args := #[Operand.tmp 47], argTypes := #[27] }, type := 3, pos := "serial.go:77", after := _, guard := some (19, true) }) rfl (by kernel_rfl) (by kernel_rfl) (by kernel_rfl) (fun _ _ _ h => h) (Or.inr ⟨by rfl, rfl⟩) (by assumption) ?_
            try simp only [Act.put, List.setIfInBounds_toArray, List.set_cons_zero, List.set_cons_succ]
            refine wpAnyH_take (i := 24) (oi := { dst := some 49, op := Op.binOp BinOp.eql 3 (Operand.tmp 46) (Operand.tmp 48) 3, type := 4, pos := "serial.go:77", after := _, guard := some (19, true) }) rfl (by kernel_rfl) (by kernel_rfl) (by kernel_rfl) (fun _ _ _ h => h) (Or.inr ⟨by rfl, rfl⟩) (by assumption) ?_
            try simp only [Act.put, List.setIfInBounds_toArray, List.set_cons_zero, List.set_cons_succ]
            refine wpAnyH_take (i := 25) (oi := { dst := some 50, op := Op.pick (Operand.tmp 44) (Operand.tmp 49) (Operand.const (Value.bool false)), type := 4, pos := "serial.go:77", after := _, guard := some (16, false) }) rfl (by kernel_rfl) (by kernel_rfl) (by kernel_rfl) (fun _ _ _ h => h) (Or.inr ⟨by rfl, rfl⟩) (by assumption) ?_
            try simp only [Act.put, List.setIfInBounds_toArray, List.set_cons_zero, List.set_cons_succ]
            refine wpAnyH_take (i := 26) (oi := { dst := some 51, op := Op.pick (Operand.tmp 41) (Operand.const (Value.bool true)) (Operand.tmp 50), type := 4, pos := "serial.go:77", after := _, guard := some (10, true) }) rfl (by kernel_rfl) (by kernel_rfl) (by kernel_rfl) (fun _ _ _ h => h) (Or.inr ⟨by rfl, rfl⟩) (by assumption) ?_
            try simp only [Act.put, List.setIfInBounds_toArray, List.set_cons_zero, List.set_cons_succ]
            refine wpAnyH_take (i := 27) (oi := { dst := some 52, op := Op.pick (Operand.tmp 35) (Operand.tmp 51) (Operand.const (Value.bool false)), type := 4, pos := "serial.go:77", after := _, guard := none }) (v := ?vbr27) rfl (by kernel_rfl) (by kernel_rfl) (by kernel_rfl) (fun _ _ _ h => h) (Or.inl ⟨by rfl, ?hybr27⟩) (by assumption) ?restbr27
            case hybr27 => (intro w hSw; (try dsimp only at hSw); go_simp <;> with_reducible rfl)
            try simp only [Act.put, List.setIfInBounds_toArray, List.set_cons_zero, List.set_cons_succ]
            refine wpAnyH_done (by kernel_rfl) ?_ _
            go_wp2
            go_roundg (n - (i + 1))
            case measure => omega
            case rel => exact ⟨i + 1, by go_num, by omega, by omega, (show Hid _ from ⟨HST.out HBAD.out, HNX.out _ (Below.refl _ _).drew⟩)⟩
          · have hikz : ¬ (i : Int) = (k : Int) := by omega
            by_cases hto : a.to_ < y.fr
            · by_cases hgt : lastX y < lastX a
              have HBAD := Lib.hid (show badQ i k a y = true from by unfold badQ; simp [hik, hto, hgt])
              refine wp_region_held_drew (S := fun w' => w'.cell? ⟨B, 9, none⟩ = some (.int .i64 a.to_) ∧ w'.cell? ⟨D, 8, none⟩ = some (.int .i64 y.fr) ∧ Blk w' B 27 (encRx a).toArray ∧ Blk w' D 27 (encRx y).toArray) (by kernel_rfl) ?_ (fun hHeldcr => ?_)
              · exact rs_of HBA.out.drew HBD.out.drew
              refine wpAnyH_take (i := 0) (oi := { dst := some 25, op := Op.move (Operand.tmp 4), type := 3, pos := "serial.go:77", after := _, guard := none }) (v := ?vcr0) rfl (by kernel_rfl) (by kernel_rfl) (by kernel_rfl) (fun _ _ _ h => h) (Or.inl ⟨by rfl, ?hycr0⟩) (by assumption) ?restcr0
              case hycr0 => (intro w hSw; (try dsimp only at hSw); go_simp <;> with_reducible rfl)
              try simp only [Act.put, List.setIfInBounds_toArray, List.set_cons_zero, List.set_cons_succ]
              refine wpAnyH_take (i := 1) (oi := { dst := some 26, op := Op.move (Operand.tmp 6), type := 3, pos := "serial.go:77", after := _, guard := none }) (v := ?vcr1) rfl (by kernel_rfl) (by kernel_rfl) (by kernel_rfl) (fun _ _ _ h => h) (Or.inl ⟨by rfl, ?hycr1⟩) (by assumption) ?restcr1
              case hycr1 => (intro w hSw; (try dsimp only at hSw); go_simp <;> with_reducible rfl)
              try simp only [Act.put, List.setIfInBounds_toArray, List.set_cons_zero, List.set_cons_succ]
              refine wpAnyH_take (i := 2) (oi := { dst := some 27, op := Op.binOp BinOp.neq 3 (Operand.tmp 25) (Operand.tmp 26) 3, type := 4, pos := "serial.go:77", after := _, guard := none }) (v := .bool true) rfl (by kernel_rfl) (by kernel_rfl) (by kernel_rfl) (fun _ _ _ h => h) (Or.inl ⟨by rfl, ?hycr2⟩) (by assumption) ?restcr2
              case hycr2 => (intro w hSw; (try dsimp only at hSw); go_simp <;> first | done | with_reducible rfl | omega | (simp; done) | (simp; omega) | (simp [*]; done) | (simp [*]; omega) | exact decide_eq_false (by omega) | exact decide_eq_true (by omega))
              try simp only [Act.put, List.setIfInBounds_toArray, List.set_cons_zero, List.set_cons_succ]
              refine wpAnyH_take (i := 3) (oi := { dst := some 28, op := Op.move (Operand.tmp 27), type := 4, pos := "serial.go:77", after := _, guard := none }) (v := ?vcr3) rfl (by kernel_rfl) (by kernel_rfl) (by kernel_rfl) (fun _ _ _ h => h) (Or.inl ⟨by rfl, ?hycr3⟩) (by assumption) ?restcr3
              case hycr3 => (intro w hSw; (try dsimp only at hSw); go_simp <;> with_reducible rfl)
              try simp only [Act.put, List.setIfInBounds_toArray, List.set_cons_zero, List.set_cons_succ]
              refine wpAnyH_take (i := 4) (oi := { dst := some 29, op := Op.fieldAddr 27 (Operand.tmp 5) 9, type := 0, pos := "serial.go:77", after := _, guard := some (3, true) }) (v := ?vcr4) rfl (by kernel_rfl) (by kernel_rfl) (by kernel_rfl) (fun _ _ _ h => h) (Or.inl ⟨by rfl, ?hycr4⟩) (by assumption) ?restcr4
              case hycr4 => (intro w hSw; (try dsimp only at hSw); go_simp <;> with_reducible rfl)
              try simp only [Act.put, List.setIfInBounds_toArray, List.set_cons_zero, List.set_cons_succ]
              refine wpAnyH_take (i := 5) (oi := { dst := some 30, op := Op.load 3 (Operand.tmp 29), type := 3, pos := "serial.go:77", after := _, guard := some (3, true) }) (v := ?vcr5) rfl (by kernel_rfl) (by kernel_rfl) (by kernel_rfl) (fun _ _ _ h => h) (Or.inl ⟨by rfl, ?hycr5⟩) (by assumption) ?restcr5
              case hycr5 => (intro w hSw; (try dsimp only at hSw); go_simp <;> with_reducible rfl)
              try simp only [Act.put, List.setIfInBounds_toArray, List.set_cons_zero, List.set_cons_succ]
              refine wpAnyH_take (i := 6) (oi := { dst := some 31, op := Op.fieldAddr 27 (Operand.tmp 7) 8, type := 0, pos := "serial.go:77", after := _, guard := some (3, true) }) (v := ?vcr6) rfl (by kernel_rfl) (by kernel_rfl) (by kernel_rfl) (fun _ _ _ h => h) (Or.inl ⟨by rfl, ?hycr6⟩) (by assumption) ?restcr6
              case hycr6 => (intro w hSw; (try dsimp only at hSw); go_simp <;> with_reducible rfl)
              try simp only [Act.put, List.setIfInBounds_toArray, List.set_cons_zero, List.set_cons_succ]
              refine wpAnyH_take (i := 7) (oi := { dst := some 32, op := Op.load 3 (Operand.tmp 31), type := 3, pos := "serial.go:77", after := _, guard := some (3, true) }) (v := ?vcr7) rfl (by kernel_rfl) (by kernel_rfl) (by kernel_rfl) (fun _ _ _ h => h) (Or.inl ⟨by rfl, ?hycr7⟩) (by assumption) ?restcr7
              case hycr7 => (intro w hSw; (try dsimp only at hSw); go_simp <;> with_reducible rfl)
              try simp only [Act.put, List.setIfInBounds_toArray, List.set_cons_zero, List.set_cons_succ]
              refine wpAnyH_take (i := 8) (oi := { dst := some 33, op := Op.binOp BinOp.lss 3 (Operand.tmp 30) (Operand.tmp 32) 3, type := 4, pos := "serial.go:77", after := _, guard := some (3, true) }) (v := .bool true) rfl (by kernel_rfl) (by kernel_rfl) (by kernel_rfl) (fun _ _ _ h => h) (Or.inl ⟨by rfl, ?hycr8⟩) (by assumption) ?restcr8
              case hycr8 => (intro w hSw; (try dsimp only at hSw); go_simp <;> first | done | with_reducible rfl | omega | (simp; done) | (simp; omega) | (simp [*]; done) | (simp [*]; omega) | exact decide_eq_false (by omega) | exact decide_eq_true (by omega))
              try simp only [Act.put, List.setIfInBounds_toArray, List.set_cons_zero, List.set_cons_succ]
              refine wpAnyH_take (i := 9) (oi := { dst := some 34, op := Op.pick (Operand.tmp 28) (Operand.tmp 33) (Operand.const (Value.bool false)), type := 4, pos := "serial.go:77", after := _, guard := none }) (v := ?vcr9) rfl (by kernel_rfl) (by kernel_rfl) (by kernel_rfl) (fun _ _ _ h => h) (Or.inl ⟨by rfl, ?hycr9⟩) (by assumption) ?restcr9
              case hycr9 => (intro w hSw; (try dsimp only at hSw); go_simp <;> with_reducible rfl)
              try simp only [Act.put, List.setIfInBounds_toArray, List.set_cons_zero, List.set_cons_succ]
              refine wpAnyH_take (i := 10) (oi := { dst := some 35, op := Op.move (Operand.tmp 34), type := 4, pos := "serial.go:77", after := _, guard := none }) (v := ?vcr10) rfl (by kernel_rfl) (by kernel_rfl) (by kernel_rfl) (fun _ _ _ h => h) (Or.inl ⟨by rfl, ?hycr10⟩) (by assumption) ?restcr10
              case hycr10 => (intro w hSw; (try dsimp only at hSw); go_simp <;> with_reducible rfl)
              try simp only [Act.put, List.setIfInBounds_toArray, List.set_cons_zero, List.set_cons_succ]
              refine wpAnyH_take (i := 11) (oi := { dst := some 36, op := Op.load 27 (Operand.tmp 5), type := 27, pos := "serial.go:77", after := _, guard := some (10, true) }) (v := .agg (encRx a).toArray) rfl (by kernel_rfl) (by kernel_rfl) (by kernel_rfl) (fun _ _ _ h => h) (Or.inl ⟨by rfl, ?hycr11⟩) (by assumption) ?restcr11
              case hycr11 => (intro w hSw; (try dsimp only at hSw); exact exec_load_mid rfl rfl (range_blk hSw.2.2.1) Try.underlying27 rfl rec_size)
              try simp only [Act.put, List.setIfInBounds_toArray, List.set_cons_zero, List.set_cons_succ]
              refine wpAnyH_take (i := 13) (oi := { dst := some 38, op := Op.load 27 (Operand.tmp 7), type := 27, pos := "serial.go:77", after := _, guard := some (10, true) }) (v := .agg (encRx y).toArray) rfl (by kernel_rfl) (by kernel_rfl) (by kernel_rfl) (fun _ _ _ h => h) (Or.inl ⟨by rfl, ?hycr13⟩) (by assumption) ?restcr13
              case hycr13 => (intro w hSw; (try dsimp only at hSw); exact exec_load_mid rfl rfl (range_blk hSw.2.2.2) Try.underlying27 rfl rec_size)
              try simp only [Act.put, List.setIfInBounds_toArray, List.set_cons_zero, List.set_cons_succ]
              refine wpAnyH_ready (rs := [12]) (by kernel_rfl) (by simp) ?_
              refine AllReadyH.cons (o := { dst := some 37, op := Op.call { callee := Callee.value (Operand.func 24), args := #[Operand.tmp 36], argTypes := #[27] }, type := 3, pos := "serial.go:77", after := _, guard := some (10, true) }) rfl (fun K hK => ?_) AllReadyH.nil
              go_simp
              refine (last_any a _).mono ?_
              rintro e v3 ⟨rfl, hv3⟩
              have hX3 : Below wq.heap.size wq v3 := Below.trans (Below.refl _ _).drew (hv3.mono (by first | exact Nat.le_refl _ | exact (Below.size (Below.refl _ _).drew)))
              try go_wp2_with fail
              refine hK.out _ _ ?_ (fun hHeldcr12 => ?_)
              · exact rs_of (HBA.out.keep hX3) (HBD.out.keep hX3)
              clear hK K hHeldcr
              try simp only [Act.put, List.setIfInBounds_toArray, List.set_cons_zero, List.set_cons_succ]
              refine wpAnyH_ready (rs := [14]) (by kernel_rfl) (by simp) ?_
              refine AllReadyH.cons (o := { dst := some 39, op := Op.call { callee := Callee.value (Operand.func 24), args := #[Operand.tmp 38], argTypes := #[27] }, type := 3, pos := "serial.go:77", after := _, guard := some (10, true) }) rfl (fun K hK => ?_) AllReadyH.nil
              go_simp
              refine (last_any y _).mono ?_
              rintro e v4 ⟨rfl, hv4⟩
              have hX4 : Below wq.heap.size wq v4 := Below.trans hX3 (hv4.mono (by first | exact Nat.le_refl _ | exact (Below.size hX3)))
              try go_wp2_with fail
              refine hK.out _ _ ?_ (fun hHeldcr14 => ?_)
              · exact rs_of (HBA.out.keep hX4) (HBD.out.keep hX4)
              clear hK K hHeldcr12
              try simp only [Act.put, List.setIfInBounds_toArray, List.set_cons_zero, List.set_cons_succ]
              refine wpAnyH_take (i := 15) (oi := { dst := some 40, op := Op.binOp BinOp.gtr 3 (Operand.tmp 37) (Operand.tmp 39) 3, type := 4, pos := "serial.go:77", after := _, guard := some (10, true) }) (v := .bool true) rfl (by kernel_rfl) (by kernel_rfl) (by kernel_rfl) (fun _ _ _ h => h) (Or.inl ⟨by rfl, ?hycr15⟩) (by assumption) ?restcr15
              case hycr15 => (intro w hSw; (try dsimp only at hSw); go_simp <;> first | done | with_reducible rfl | omega | (simp; done) | (simp; omega) | (simp [*]; done) | (simp [*]; omega) | exact decide_eq_false (by omega) | exact decide_eq_true (by omega))
              try simp only [Act.put, List.setIfInBounds_toArray, List.set_cons_zero, List.set_cons_succ]
              refine wpAnyH_take (i := 16) (oi := { dst := some 41, op := Op.move (Operand.tmp 40), type := 4, pos := "serial.go:77", after := _, guard := some (10, true) }) (v := ?vcr16) rfl (by kernel_rfl) (by kernel_rfl) (by kernel_rfl) (fun _ _ _ h => h) (Or.inl ⟨by rfl, ?hycr16⟩) (by assumption) ?restcr16
              case hycr16 => (intro w hSw; (try dsimp only at hSw); go_simp <;> with_reducible rfl)
              try simp only [Act.put, List.setIfInBounds_toArray, List.set_cons_zero, List.set_cons_succ]
              refine wpAnyH_take (i := 17) (oi := { dst := some 42, op := Op.load 27 (Operand.tmp 7), type := 27, pos := "serial.go:77", after := _, guard := some (16, false) }) rfl (by kernel_rfl) (by kernel_rfl) (by kernel_rfl) (fun _ _ _ h => h) (Or.inr ⟨by rfl, rfl⟩) (by assumption) ?_
              try simp only [Act.put, List.setIfInBounds_toArray, List.set_cons_zero, List.set_cons_succ]
              refine wpAnyH_take (i := 18) (oi := { dst := some 43, op := Op.call { callee := Callee.value (Operand.func 25), args := #[Operand.tmp 42], argTypes := #[27] }, type := 4, pos := "serial.go:77", after := _, guard := some (16, false) }) rfl (by kernel_rfl) (by kernel_rfl) (by kernel_rfl) (fun _ _ _ h => h) (Or.inr ⟨by rfl, rfl⟩) (by assumption) ?_
              try simp only [Act.put, List.setIfInBounds_toArray, List.set_cons_zero, List.set_cons_succ]
              refine wpAnyH_take (i := 19) (oi := { dst := some 44, op := Op.move (Operand.tmp 43), type := 4, pos := "serial.go:77", after := _, guard := some (16, false) }) rfl (by kernel_rfl) (by kernel_rfl) (by kernel_rfl) (fun _ _ _ h => h) (Or.inr ⟨by rfl, rfl⟩) (by assumption) ?_
              try simp only [Act.put, List.setIfInBounds_toArray, List.set_cons_zero, List.set_cons_succ]
              refine wpAnyH_take (i := 20) (oi := { dst := some 45, op := Op.load 27 (Operand.tmp 5), type := 27, pos := "serial.go:77", after := _, guard := some (19, true) }) rfl (by kernel_rfl) (by kernel_rfl) (by kernel_rfl) (fun _ _ _ h => h) (Or.inr ⟨by rfl, rfl⟩) (by assumption) ?_
              try simp only [Act.put, List.setIfInBounds_toArray, List.set_cons_zero, List.set_cons_succ]
              refine wpAnyH_take (i := 21) (oi := { dst := some 46, op := Op.call { callee := Callee.value (Operand.func 24), args := #[Operand.tmp 45], argTypes := #[27] }, type := 3, pos := "serial.go:77", after := _, guard := some (19, true) }) rfl (by kernel_rfl) (by kernel_rfl) (by kernel_rfl) (fun _ _ _ h => h) (Or.inr ⟨by rfl, rfl⟩) (by assumption) ?_
              try simp only [Act.put, List.setIfInBounds_toArray, List.set_cons_zero, List.set_cons_succ]
              refine wpAnyH_take (i := 22) (oi := { dst := some 47, op := Op.load 27 (Operand.tmp 7), type := 27, pos := "serial.go:77", after := _, guard := some (19, true) }) rfl (by kernel_rfl) (by kernel_rfl) (by kernel_rfl) (fun _ _ _ h => h) (Or.inr ⟨by rfl, rfl⟩) (by assumption) ?_
              try simp only [Act.put, List.setIfInBounds_toArray, List.set_cons_zero, List.set_cons_succ]
              refine wpAnyH_take (i := 23) (oi := { dst := some 48, op := Op.call { callee := Callee.value (Operand.func 24), args := #[Operand.tmp 47], argTypes := #[27] }, type := 3, pos := "serial.go:77", after := _, guard := some (19, true) }) rfl (by kernel_rfl) (by kernel_rfl) (by kernel_rfl) (fun _ _ _ h => h) (Or.inr ⟨by rfl, rfl⟩) (by assumption) ?_
              try simp only [Act.put, List.setIfInBounds_toArray, List.set_cons_zero, List.set_cons_succ]
              refine wpAnyH_take (i := 24) (oi := { dst := some 49, op := Op.binOp BinOp.eql 3 (Operand.tmp 46) (Operand.tmp 48) 3, type := 4, pos := "serial.go:77", after := _, guard := some (19, true) }) rfl (by kernel_rfl) (by kernel_rfl) (by kernel_rfl) (fun _ _ _ h => h) (Or.inr ⟨by rfl, rfl⟩) (by assumption) ?_
              try simp only [Act.put, List.setIfInBounds_toArray, List.set_cons_zero, List.set_cons_succ]
              refine wpAnyH_take (i := 25) (oi := { dst := some 50, op := Op.pick (Operand.tmp 44) (Operand.tmp 49) (Operand.const (Value.bool false)), type := 4, pos := "serial.go:77", after := _, guard := some (16, false) }) rfl (by kernel_rfl) (by kernel_rfl) (by kernel_rfl) (fun _ _ _ h => h) (Or.inr ⟨by rfl, rfl⟩) (by assumption) ?_
              try simp only [Act.put, List.setIfInBounds_toArray, List.set_cons_zero, List.set_cons_succ]
              refine wpAnyH_take (i := 26) (oi := { dst := some 51, op := Op.pick (Operand.tmp 41) (Operand.const (Value.bool true)) (Operand.tmp 50), type := 4, pos := "serial.go:77", after := _, guard := some (10, true) }) (v := ?vcr26) rfl (by kernel_rfl) (by kernel_rfl) (by kernel_rfl) (fun _ _ _ h => h) (Or.inl ⟨by rfl, ?hycr26⟩) (by assumption) ?restcr26
              case hycr26 => (intro w hSw; (try dsimp only at hSw); go_simp <;> with_reducible rfl)
              try simp only [Act.put, List.setIfInBounds_toArray, List.set_cons_zero, List.set_cons_succ]
              refine wpAnyH_take (i := 27) (oi := { dst := some 52, op := Op.pick (Operand.tmp 35) (Operand.tmp 51) (Operand.const (Value.bool false)), type := 4, pos := "serial.go:77", after := _, guard := none }) (v := ?vcr27) rfl (by kernel_rfl) (by kernel_rfl) (by kernel_rfl) (fun _ _ _ h => h) (Or.inl ⟨by rfl, ?hycr27⟩) (by assumption) ?restcr27
              case hycr27 => (intro w hSw; (try dsimp only at hSw); go_simp <;> with_reducible rfl)
              try simp only [Act.put, List.setIfInBounds_toArray, List.set_cons_zero, List.set_cons_succ]
              refine wpAnyH_done (by kernel_rfl) ?_ _
              go_wp2
              go_ret
              refine ⟨?_, HNX.out _ hX4 |>.1⟩
              exact congrArg (fun b => Ending.returned (.bool b)) (HF.out i k hlt hk (fun h => by have h2 := h a HA0.out y HY0.out; rw [HBAD.out] at h2; cases h2)).symm
              · cases hwy : writesX y with
                | false =>
                  have HBAD := Lib.hid (show badQ i k a y = false from by unfold badQ; simp [hgt, hwy])
                  have hwr := fun W => hwy ▸ writes_any y W
                  refine wp_region_held_drew (S := fun w' => w'.cell? ⟨B, 9, none⟩ = some (.int .i64 a.to_) ∧ w'.cell? ⟨D, 8, none⟩ = some (.int .i64 y.fr) ∧ Blk w' B 27 (encRx a).toArray ∧ Blk w' D 27 (encRx y).toArray) (by kernel_rfl) ?_ (fun hHelddr => ?_)
                  · exact rs_of HBA.out.drew HBD.out.drew
                  refine wpAnyH_take (i := 0) (oi := { dst := some 25, op := Op.move (Operand.tmp 4), type := 3, pos := "serial.go:77", after := _, guard := none }) (v := ?vdr0) rfl (by kernel_rfl) (by kernel_rfl) (by kernel_rfl) (fun _ _ _ h => h) (Or.inl ⟨by rfl, ?hydr0⟩) (by assumption) ?restdr0
                  case hydr0 => (intro w hSw; (try dsimp only at hSw); go_simp <;> with_reducible rfl)
                  try simp only [Act.put, List.setIfInBounds_toArray, List.set_cons_zero, List.set_cons_succ]
                  refine wpAnyH_take (i := 1) (oi := { dst := some 26, op := Op.move (Operand.tmp 6), type := 3, pos := "serial.go:77", after := _, guard := none }) (v := ?vdr1) rfl (by kernel_rfl) (by kernel_rfl) (by kernel_rfl) (fun _ _ _ h => h) (Or.inl ⟨by rfl, ?hydr1⟩) (by assumption) ?restdr1
                  case hydr1 => (intro w hSw; (try dsimp only at hSw); go_simp <;> with_reducible rfl)
                  try simp only [Act.put, List.setIfInBounds_toArray, List.set_cons_zero, List.set_cons_succ]
                  refine wpAnyH_take (i := 2) (oi := { dst := some 27, op := Op.binOp BinOp.neq 3 (Operand.tmp 25) (Operand.tmp 26) 3, type := 4, pos := "serial.go:77", after := _, guard := none }) (v := .bool true) rfl (by kernel_rfl) (by kernel_rfl) (by kernel_rfl) (fun _ _ _ h => h) (Or.inl ⟨by rfl, ?hydr2⟩) (by assumption) ?restdr2
                  case hydr2 => (intro w hSw; (try dsimp only at hSw); go_simp <;> first | done | with_reducible rfl | omega | (simp; done) | (simp; omega) | (simp [*]; done) | (simp [*]; omega) | exact decide_eq_false (by omega) | exact decide_eq_true (by omega))
                  try simp only [Act.put, List.setIfInBounds_toArray, List.set_cons_zero, List.set_cons_succ]
                  refine wpAnyH_take (i := 3) (oi := { dst := some 28, op := Op.move (Operand.tmp 27), type := 4, pos := "serial.go:77", after := _, guard := none }) (v := ?vdr3) rfl (by kernel_rfl) (by kernel_rfl) (by kernel_rfl) (fun _ _ _ h => h) (Or.inl ⟨by rfl, ?hydr3⟩) (by assumption) ?restdr3
                  case hydr3 => (intro w hSw; (try dsimp only at hSw); go_simp <;> with_reducible rfl)
                  try simp only [Act.put, List.setIfInBounds_toArray, List.set_cons_zero, List.set_cons_succ]
                  refine wpAnyH_take (i := 4) (oi := { dst := some 29, op := Op.fieldAddr 27 (Operand.tmp 5) 9, type := 0, pos := "serial.go:77", after := _, guard := some (3, true) }) (v := ?vdr4) rfl (by kernel_rfl) (by kernel_rfl) (by kernel_rfl) (fun _ _ _ h => h) (Or.inl ⟨by rfl, ?hydr4⟩) (by assumption) ?restdr4
                  case hydr4 => (intro w hSw; (try dsimp only at hSw); go_simp <;> with_reducible rfl)
                  try simp only [Act.put, List.setIfInBounds_toArray, List.set_cons_zero, List.set_cons_succ]
                  refine wpAnyH_take (i := 5) (oi := { dst := some 30, op := Op.load 3 (Operand.tmp 29), type := 3, pos := "serial.go:77", after := _, guard := some (3, true) }) (v := ?vdr5) rfl (by kernel_rfl) (by kernel_rfl) (by kernel_rfl) (fun _ _ _ h => h) (Or.inl ⟨by rfl, ?hydr5⟩) (by assumption) ?restdr5
                  case hydr5 => (intro w hSw; (try dsimp only at hSw); go_simp <;> with_reducible rfl)
                  try simp only [Act.put, List.setIfInBounds_toArray, List.set_cons_zero, List.set_cons_succ]
                  refine wpAnyH_take (i := 6) (oi := { dst := some 31, op := Op.fieldAddr 27 (Operand.tmp 7) 8, type := 0, pos := "serial.go:77", after := _, guard := some (3, true) }) (v := ?vdr6) rfl (by kernel_rfl) (by kernel_rfl) (by kernel_rfl) (fun _ _ _ h => h) (Or.inl ⟨by rfl, ?hydr6⟩) (by assumption) ?restdr6
                  case hydr6 => (intro w hSw; (try dsimp only at hSw); go_simp <;> with_reducible rfl)
                  try simp only [Act.put, List.setIfInBounds_toArray, List.set_cons_zero, List.set_cons_succ]
                  refine wpAnyH_take (i := 7) (oi := { dst := some 32, op := Op.load 3 (Operand.tmp 31), type := 3, pos := "serial.go:77", after := _, guard := some (3, true) }) (v := ?vdr7) rfl (by kernel_rfl) (by kernel_rfl) (by kernel_rfl) (fun _ _ _ h => h) (Or.inl ⟨by rfl, ?hydr7⟩) (by assumption) ?restdr7
                  case hydr7 => (intro w hSw; (try dsimp only at hSw); go_simp <;> with_reducible rfl)
                  try simp only [Act.put, List.setIfInBounds_toArray, List.set_cons_zero, List.set_cons_succ]
                  refine wpAnyH_take (i := 8) (oi := { dst := some 33, op := Op.binOp BinOp.lss 3 (Operand.tmp 30) (Operand.tmp 32) 3, type := 4, pos := "serial.go:77", after := _, guard := some (3, true) }) (v := .bool true) rfl (by kernel_rfl) (by kernel_rfl) (by kernel_rfl) (fun _ _ _ h => h) (Or.inl ⟨by rfl, ?hydr8⟩) (by assumption) ?restdr8
                  case hydr8 => (intro w hSw; (try dsimp only at hSw); go_simp <;> first | done | with_reducible rfl | omega | (simp; done) | (simp; omega) | (simp [*]; done) | (simp [*]; omega) | exact decide_eq_false (by omega) | exact decide_eq_true (by omega))
                  try simp only [Act.put, List.setIfInBounds_toArray, List.set_cons_zero, List.set_cons_succ]
                  refine wpAnyH_take (i := 9) (oi := { dst := some 34, op := Op.pick (Operand.tmp 28) (Operand.tmp 33) (Operand.const (Value.bool false)), type := 4, pos := "serial.go:77", after := _, guard := none }) (v := ?vdr9) rfl (by kernel_rfl) (by kernel_rfl) (by kernel_rfl) (fun _ _ _ h => h) (Or.inl ⟨by rfl, ?hydr9⟩) (by assumption) ?restdr9
                  case hydr9 => (intro w hSw; (try dsimp only at hSw); go_simp <;> with_reducible rfl)
                  try simp only [Act.put, List.setIfInBounds_toArray, List.set_cons_zero, List.set_cons_succ]
                  refine wpAnyH_take (i := 10) (oi := { dst := some 35, op := Op.move (Operand.tmp 34), type := 4, pos := "serial.go:77", after := _, guard := none }) (v := ?vdr10) rfl (by kernel_rfl) (by kernel_rfl) (by kernel_rfl) (fun _ _ _ h => h) (Or.inl ⟨by rfl, ?hydr10⟩) (by assumption) ?restdr10
                  case hydr10 => (intro w hSw; (try dsimp only at hSw); go_simp <;> with_reducible rfl)
                  try simp only [Act.put, List.setIfInBounds_toArray, List.set_cons_zero, List.set_cons_succ]
                  refine wpAnyH_take (i := 11) (oi := { dst := some 36, op := Op.load 27 (Operand.tmp 5), type := 27, pos := "serial.go:77", after := _, guard := some (10, true) }) (v := .agg (encRx a).toArray) rfl (by kernel_rfl) (by kernel_rfl) (by kernel_rfl) (fun _ _ _ h => h) (Or.inl ⟨by rfl, ?hydr11⟩) (by assumption) ?restdr11
                  case hydr11 => (intro w hSw; (try dsimp only at hSw); exact exec_load_mid rfl rfl (range_blk hSw.2.2.1) Try.underlying27 rfl rec_size)
                  try simp only [Act.put, List.setIfInBounds_toArray, List.set_cons_zero, List.set_cons_succ]
                  refine wpAnyH_take (i := 13) (oi := { dst := some 38, op := Op.load 27 (Operand.tmp 7), type := 27, pos := "serial.go:77", after := _, guard := some (10, true) }) (v := .agg (encRx y).toArray) rfl (by kernel_rfl) (by kernel_rfl) (by kernel_rfl) (fun _ _ _ h => h) (Or.inl ⟨by rfl, ?hydr13⟩) (by assumption) ?restdr13
                  case hydr13 => (intro w hSw; (try dsimp only at hSw); exact exec_load_mid rfl rfl (range_blk hSw.2.2.2) Try.underlying27 rfl rec_size)
                  try simp only [Act.put, List.setIfInBounds_toArray, List.set_cons_zero, List.set_cons_succ]
                  refine wpAnyH_ready (rs := [12]) (by kernel_rfl) (by simp) ?_
                  refine AllReadyH.cons (o := { dst := some 37, op := Op.call { callee := Callee.value (Operand.func 24), args := #[Operand.tmp 36], argTypes := #[27] }, type := 3, pos := "serial.go:77", after := _, guard := some (10, true) }) rfl (fun K hK => ?_) AllReadyH.nil
                  go_simp
                  refine (last_any a _).mono ?_
                  rintro e v3 ⟨rfl, hv3⟩
                  have hX3 : Below wq.heap.size wq v3 := Below.trans (Below.refl _ _).drew (hv3.mono (by first | exact Nat.le_refl _ | exact (Below.size (Below.refl _ _).drew)))
                  try go_wp2_with fail
                  refine hK.out _ _ ?_ (fun hHelddr12 => ?_)
                  · exact rs_of (HBA.out.keep hX3) (HBD.out.keep hX3)
                  clear hK K hHelddr
                  try simp only [Act.put, List.setIfInBounds_toArray, List.set_cons_zero, List.set_cons_succ]
                  refine wpAnyH_ready (rs := [14]) (by kernel_rfl) (by simp) ?_
                  refine AllReadyH.cons (o := { dst := some 39, op := Op.call { callee := Callee.value (Operand.func 24), args := #[Operand.tmp 38], argTypes := #[27] }, type := 3, pos := "serial.go:77", after := _, guard := some (10, true) }) rfl (fun K hK => ?_) AllReadyH.nil
                  go_simp
                  refine (last_any y _).mono ?_
                  rintro e v4 ⟨rfl, hv4⟩
                  have hX4 : Below wq.heap.size wq v4 := Below.trans hX3 (hv4.mono (by first | exact Nat.le_refl _ | exact (Below.size hX3)))
                  try go_wp2_with fail
                  refine hK.out _ _ ?_ (fun hHelddr14 => ?_)
                  · exact rs_of (HBA.out.keep hX4) (HBD.out.keep hX4)
                  clear hK K hHelddr12
                  try simp only [Act.put, List.setIfInBounds_toArray, List.set_cons_zero, List.set_cons_succ]
                  refine wpAnyH_take (i := 15) (oi := { dst := some 40, op := Op.binOp BinOp.gtr 3 (Operand.tmp 37) (Operand.tmp 39) 3, type := 4, pos := "serial.go:77", after := _, guard := some (10, true) }) (v := .bool false) rfl (by kernel_rfl) (by kernel_rfl) (by kernel_rfl) (fun _ _ _ h => h) (Or.inl ⟨by rfl, ?hydr15⟩) (by assumption) ?restdr15
                  case hydr15 => (intro w hSw; (try dsimp only at hSw); go_simp <;> first | done | with_reducible rfl | omega | (simp; done) | (simp; omega) | (simp [*]; done) | (simp [*]; omega) | exact decide_eq_false (by omega) | exact decide_eq_true (by omega))
                  try simp only [Act.put, List.setIfInBounds_toArray, List.set_cons_zero, List.set_cons_succ]
                  refine wpAnyH_take (i := 16) (oi := { dst := some 41, op := Op.move (Operand.tmp 40), type := 4, pos := "serial.go:77", after := _, guard := some (10, true) }) (v := ?vdr16) rfl (by kernel_rfl) (by kernel_rfl) (by kernel_rfl) (fun _ _ _ h => h) (Or.inl ⟨by rfl, ?hydr16⟩) (by assumption) ?restdr16
                  case hydr16 => (intro w hSw; (try dsimp only at hSw); go_simp <;> with_reducible rfl)
                  try simp only [Act.put, List.setIfInBounds_toArray, List.set_cons_zero, List.set_cons_succ]
                  refine wpAnyH_take (i := 17) (oi := { dst := some 42, op := Op.load 27 (Operand.tmp 7), type := 27, pos := "serial.go:77", after := _, guard := some (16, false) }) (v := .agg (encRx y).toArray) rfl (by kernel_rfl) (by kernel_rfl) (by kernel_rfl) (fun _ _ _ h => h) (Or.inl ⟨by rfl, ?hydr17⟩) (by assumption) ?restdr17
                  case hydr17 => (intro w hSw; (try dsimp only at hSw); exact exec_load_mid rfl rfl (range_blk hSw.2.2.2) Try.underlying27 rfl rec_size)
                  try simp only [Act.put, List.setIfInBounds_toArray, List.set_cons_zero, List.set_cons_succ]
                  refine wpAnyH_ready (rs := [18]) (by kernel_rfl) (by simp) ?_
                  refine AllReadyH.cons (o := { dst := some 43, op := Op.call { callee := Callee.value (Operand.func 25), args := #[Operand.tmp 42], argTypes := #[27] }, type := 4, pos := "serial.go:77", after := _, guard := some (16, false) }) rfl (fun K hK => ?_) AllReadyH.nil
                  go_simp
                  refine (hwr _).mono ?_
                  rintro e v5 ⟨rfl, hv5⟩
                  have hX5 : Below wq.heap.size wq v5 := Below.trans hX4 (hv5.mono (by first | exact Nat.le_refl _ | exact (Below.size hX4)))
                  try go_wp2_with fail
                  refine hK.out _ _ ?_ (fun hHelddr18 => ?_)
                  · exact rs_of (HBA.out.keep hX5) (HBD.out.keep hX5)
                  clear hK K hHelddr14
                  try simp only [Act.put, List.setIfInBounds_toArray, List.set_cons_zero, List.set_cons_succ]
                  refine wpAnyH_take (i := 19) (oi := { dst := some 44, op := Op.move (Operand.tmp 43), type := 4, pos := "serial.go:77", after := _, guard := some (16, false) }) (v := ?vdr19) rfl (by kernel_rfl) (by kernel_rfl) (by kernel_rfl) (fun _ _ _ h => h) (Or.inl ⟨by rfl, ?hydr19⟩) (by assumption) ?restdr19
                  case hydr19 => (intro w hSw; (try dsimp only at hSw); go_simp <;> with_reducible rfl)
                  try simp only [Act.put, List.setIfInBounds_toArray, List.set_cons_zero, List.set_cons_succ]
                  refine wpAnyH_take (i := 20) (oi := { dst := some 45, op := Op.load 27 (Operand.tmp 5), type := 27, pos := "serial.go:77", after := _, guard := some (19, true) }) rfl (by kernel_rfl) (by kernel_rfl) (by kernel_rfl) (fun _ _ _ h => h) (Or.inr ⟨by rfl, rfl⟩) (by assumption) ?_
                  try simp only [Act.put, List.setIfInBounds_toArray, List.set_cons_zero, List.set_cons_succ]
                  refine wpAnyH_take (i := 21) (oi := { dst := some 46, op := Op.call { callee := Callee.value (Operand.func 24), args := #[Operand.tmp 45], argTypes := #[27] }, type := 3, pos := "serial.go:77", after := _, guard := some (19, true) }) rfl (by kernel_rfl) (by kernel_rfl) (by kernel_rfl) (fun _ _ _ h => h) (Or.inr ⟨by rfl, rfl⟩) (by assumption) ?_
                  try simp only [Act.put, List.setIfInBounds_toArray, List.set_cons_zero, List.set_cons_succ]
                  refine wpAnyH_take (i := 22) (oi := { dst := some 47, op := Op.load 27 (Operand.tmp 7), type := 27, pos := "serial.go:77", after := _, guard := some (19, true) }) rfl (by kernel_rfl) (by kernel_rfl) (by kernel_rfl) (fun _ _ _ h => h) (Or.inr ⟨by rfl, rfl⟩) (by assumption) ?_
                  try simp only [Act.put, List.setIfInBounds_toArray, List.set_cons_zero, List.set_cons_succ]
                  refine wpAnyH_take (i := 23) (oi := { dst := some 48, op := Op.call { callee := Callee.value (Operand.func 24), args := #[Operand.tmp 47], argTypes := #[27] }, type := 3, pos := "serial.go:77", after := _, guard := some (19, true) }) rfl (by kernel_rfl) (by kernel_rfl) (by kernel_rfl) (fun _ _ _ h => h) (Or.inr ⟨by rfl, rfl⟩) (by assumption) ?_
                  try simp only [Act.put, List.setIfInBounds_toArray, List.set_cons_zero, List.set_cons_succ]
                  refine wpAnyH_take (i := 24) (oi := { dst := some 49, op := Op.binOp BinOp.eql 3 (Operand.tmp 46) (Operand.tmp 48) 3, type := 4, pos := "serial.go:77", after := _, guard := some (19, true) }) rfl (by kernel_rfl) (by kernel_rfl) (by kernel_rfl) (fun _ _ _ h => h) (Or.inr ⟨by rfl, rfl⟩) (by assumption) ?_
                  try simp only [Act.put, List.setIfInBounds_toArray, List.set_cons_zero, List.set_cons_succ]
                  refine wpAnyH_take (i := 25) (oi := { dst := some 50, op := Op.pick (Operand.tmp 44) (Operand.tmp 49) (Operand.const (Value.bool false)), type := 4, pos := "serial.go:77", after := _, guard := some (16, false) }) (v := ?vdr25) rfl (by kernel_rfl) (by kernel_rfl) (by kernel_rfl) (fun _ _ _ h => h) (Or.inl ⟨by rfl, ?hydr25⟩) (by assumption) ?restdr25
                  case hydr25 => (intro w hSw; (try dsimp only at hSw); go_simp <;> with_reducible rfl)
                  try simp only [Act.put, List.setIfInBounds_toArray, List.set_cons_zero, List.set_cons_succ]
                  refine wpAnyH_take (i := 26) (oi := { dst := some 51, op := Op.pick (Operand.tmp 41) (Operand.const (Value.bool true)) (Operand.tmp 50), type := 4, pos := "serial.go:77", after := _, guard := some (10, true) }) (v := ?vdr26) rfl (by kernel_rfl) (by kernel_rfl) (by kernel_rfl) (fun _ _ _ h => h) (Or.inl ⟨by rfl, ?hydr26⟩) (by assumption) ?restdr26
                  case hydr26 => (intro w hSw; (try dsimp only at hSw); go_simp <;> with_reducible rfl)
                  try simp only [Act.put, List.setIfInBounds_toArray, List.set_cons_zero, List.set_cons_succ]
                  refine wpAnyH_take (i := 27) (oi := { dst := some 52, op := Op.pick (Operand.tmp 35) (Operand.tmp 51) (Operand.const (Value.bool false)), type := 4, pos := "serial.go:77", after := _, guard := none }) (v := ?vdr27) rfl (by kernel_rfl) (by kernel_rfl) (by kernel_rfl) (fun _ _ _ h => h) (Or.inl ⟨by rfl, ?hydr27⟩) (by assumption) ?restdr27
                  case hydr27 => (intro w hSw; (try dsimp only at hSw); go_simp <;> with_reducible rfl)
                  try simp only [Act.put, List.setIfInBounds_toArray, List.set_cons_zero, List.set_cons_succ]
                  refine wpAnyH_done (by kernel_rfl) ?_ _
                  go_wp2
                  go_roundg (n - (k + 1))
                  case measure => omega
                  case rel => exact ⟨k + 1, by go_num, by omega, by omega, (show Hid _ from ⟨HST.out HBAD.out, HNX.out _ hX5⟩)⟩
                | true =>
                  have hwr := fun W => hwy ▸ writes_any y W
                  by_cases heq : lastX a = lastX y
                  · have HBAD := Lib.hid (show badQ i k a y = true from by unfold badQ; simp [hik, hto, hwy, heq])
                    refine wp_region_held_drew (S := fun w' => w'.cell? ⟨B, 9, none⟩ = some (.int .i64 a.to_) ∧ w'.cell? ⟨D, 8, none⟩ = some (.int .i64 y.fr) ∧ Blk w' B 27 (encRx a).toArray ∧ Blk w' D 27 (encRx y).toArray) (by kernel_rfl) ?_ (fun hHelder => ?_)
                    · exact rs_of HBA.out.drew HBD.out.drew
                    refine wpAnyH_take (i := 0) (oi := { dst := some 25, op := Op.move (Operand.tmp 4), type := 3, pos := "serial.go:77", after := _, guard := none }) (v := ?ver0) rfl (by kernel_rfl) (by kernel_rfl) (by kernel_rfl) (fun _ _ _ h => h) (Or.inl ⟨by rfl, ?hyer0⟩) (by assumption) ?rester0
                    case hyer0 => (intro w hSw; (try dsimp only at hSw); go_simp <;> with_reducible rfl)
                    try simp only [Act.put, List.setIfInBounds_toArray, List.set_cons_zero, List.set_cons_succ]
                    refine wpAnyH_take (i := 1) (oi := { dst := some 26, op := Op.move (Operand.tmp 6), type := 3, pos := "serial.go:77", after := _, guard := none }) (v := ?ver1) rfl (by kernel_rfl) (by kernel_rfl) (by kernel_rfl) (fun _ _ _ h => h) (Or.inl ⟨by rfl, ?hyer1⟩) (by assumption) ?rester1
                    case hyer1 => (intro w hSw; (try dsimp only at hSw); go_simp <;> with_reducible rfl)
                    try simp only [Act.put, List.setIfInBounds_toArray, List.set_cons_zero, List.set_cons_succ]
                    refine wpAnyH_take (i := 2) (oi := { dst := some 27, op := Op.binOp BinOp.neq 3 (Operand.tmp 25) (Operand.tmp 26) 3, type := 4, pos := "serial.go:77", after := _, guard := none }) (v := .bool true) rfl (by kernel_rfl) (by kernel_rfl) (by kernel_rfl) (fun _ _ _ h => h) (Or.inl ⟨by rfl, ?hyer2⟩) (by assumption) ?rester2
                    case hyer2 => (intro w hSw; (try dsimp only at hSw); go_simp <;> first | done | with_reducible rfl | omega | (simp; done) | (simp; omega) | (simp [*]; done) | (simp [*]; omega) | exact decide_eq_false (by omega) | exact decide_eq_true (by omega))
                    try simp only [Act.put, List.setIfInBounds_toArray, List.set_cons_zero, List.set_cons_succ]
                    refine wpAnyH_take (i := 3) (oi := { dst := some 28, op := Op.move (Operand.tmp 27), type := 4, pos := "serial.go:77", after := _, guard := none }) (v := ?ver3) rfl (by kernel_rfl) (by kernel_rfl) (by kernel_rfl) (fun _ _ _ h => h) (Or.inl ⟨by rfl, ?hyer3⟩) (by assumption) ?rester3
                    case hyer3 => (intro w hSw; (try dsimp only at hSw); go_simp <;> with_reducible rfl)
                    try simp only [Act.put, List.setIfInBounds_toArray, List.set_cons_zero, List.set_cons_succ]
                    refine wpAnyH_take (i := 4) (oi := { dst := some 29, op := Op.fieldAddr 27 (Operand.tmp 5) 9, type := 0, pos := "serial.go:77", after := _, guard := some (3, true) }) (v := ?ver4) rfl (by kernel_rfl) (by kernel_rfl) (by kernel_rfl) (fun _ _ _ h => h) (Or.inl ⟨by rfl, ?hyer4⟩) (by assumption) ?rester4
                    case hyer4 => (intro w hSw; (try dsimp only at hSw); go_simp <;> with_reducible rfl)
                    try simp only [Act.put, List.setIfInBounds_toArray, List.set_cons_zero, List.set_cons_succ]
                    refine wpAnyH_take (i := 5) (oi := { dst := some 30, op := Op.load 3 (Operand.tmp 29), type := 3, pos := "serial.go:77", after := _, guard := some (3, true) }) (v := ?ver5) rfl (by kernel_rfl) (by kernel_rfl) (by kernel_rfl) (fun _ _ _ h => h) (Or.inl ⟨by rfl, ?hyer5⟩) (by assumption) ?rester5
                    case hyer5 => (intro w hSw; (try dsimp only at hSw); go_simp <;> with_reducible rfl)
                    try simp only [Act.put, List.setIfInBounds_toArray, List.set_cons_zero, List.set_cons_succ]
                    refine wpAnyH_take (i := 6) (oi := { dst := some 31, op := Op.fieldAddr 27 (Operand.tmp 7) 8, type := 0, pos := "serial.go:77", after := _, guard := some (3, true) }) (v := ?ver6) rfl (by kernel_rfl) (by kernel_rfl) (by kernel_rfl) (fun _ _ _ h => h) (Or.inl ⟨by rfl, ?hyer6⟩) (by assumption) ?rester6
                    case hyer6 => (intro w hSw; (try dsimp only at hSw); go_simp <;> with_reducible rfl)
                    try simp only [Act.put, List.setIfInBounds_toArray, List.set_cons_zero, List.set_cons_succ]
                    refine wpAnyH_take (i := 7) (oi := { dst := some 32, op := Op.load 3 (Operand.tmp 31), type := 3, pos := "serial.go:77", after := _, guard := some (3, true) }) (v := ?ver7) rfl (by kernel_rfl) (by kernel_rfl) (by kernel_rfl) (fun _ _ _ h => h) (Or.inl ⟨by rfl, ?hyer7⟩) (by assumption) ?rester7
                    case hyer7 => (intro w hSw; (try dsimp only at hSw); go_simp <;> with_reducible rfl)
                    try simp only [Act.put, List.setIfInBounds_toArray, List.set_cons_zero, List.set_cons_succ]
                    refine wpAnyH_take (i := 8) (oi := { dst := some 33, op := Op.binOp BinOp.lss 3 (Operand.tmp 30) (Operand.tmp 32) 3, type := 4, pos := "serial.go:77", after := _, guard := some (3, true) }) (v := .bool true) rfl (by kernel_rfl) (by kernel_rfl) (by kernel_rfl) (fun _ _ _ h => h) (Or.inl ⟨by rfl, ?hyer8⟩) (by assumption) ?rester8
                    case hyer8 => (intro w hSw; (try dsimp only at hSw); go_simp <;> first | done | with_reducible rfl | omega | (simp; done) | (simp; omega) | (simp [*]; done) | (simp [*]; omega) | exact decide_eq_false (by omega) | exact decide_eq_true (by omega))
                    try simp only [Act.put, List.setIfInBounds_toArray, List.set_cons_zero, List.set_cons_succ]
                    refine wpAnyH_take (i := 9) (oi := { dst := some 34, op := Op.pick (Operand.tmp 28) (Operand.tmp 33) (Operand.const (Value.bool false)), type := 4, pos := "serial.go:77", after := _, guard := none }) (v := ?ver9) rfl (by kernel_rfl) (by kernel_rfl) (by kernel_rfl) (fun _ _ _ h => h) (Or.inl ⟨by rfl, ?hyer9⟩) (by assumption) ?rester9
                    case hyer9 => (intro w hSw; (try dsimp only at hSw); go_simp <;> with_reducible rfl)
                    try simp only [Act.put, List.setIfInBounds_toArray, List.set_cons_zero, List.set_cons_succ]
                    refine wpAnyH_take (i := 10) (oi := { dst := some 35, op := Op.move (Operand.tmp 34), type := 4, pos := "serial.go:77", after := _, guard := none }) (v := ?ver10) rfl (by kernel_rfl) (by kernel_rfl) (by kernel_rfl) (fun _ _ _ h => h) (Or.inl ⟨by rfl, ?hyer10⟩) (by assumption) ?rester10
                    case hyer10 => (intro w hSw; (try dsimp only at hSw); go_simp <;> with_reducible rfl)
                    try simp only [Act.put, List.setIfInBounds_toArray, List.set_cons_zero, List.set_cons_succ]
                    refine wpAnyH_take (i := 11) (oi := { dst := some 36, op := Op.load 27 (Operand.tmp 5), type := 27, pos := "serial.go:77", after := _, guard := some (10, true) }) (v := .agg (encRx a).toArray) rfl (by kernel_rfl) (by kernel_rfl) (by kernel_rfl) (fun _ _ _ h => h) (Or.inl ⟨by rfl, ?hyer11⟩) (by assumption) ?rester11
                    case hyer11 => (intro w hSw; (try dsimp only at hSw); exact exec_load_mid rfl rfl (range_blk hSw.2.2.1) Try.underlying27 rfl rec_size)
                    try simp only [Act.put, List.setIfInBounds_toArray, List.set_cons_zero, List.set_cons_succ]
                    refine wpAnyH_take (i := 13) (oi := { dst := some 38, op := Op.load 27 (Operand.tmp 7), type := 27, pos := "serial.go:77", after := _, guard := some (10, true) }) (v := .agg (encRx y).toArray) rfl (by kernel_rfl) (by kernel_rfl) (by kernel_rfl) (fun _ _ _ h => h) (Or.inl ⟨by rfl, ?hyer13⟩) (by assumption) ?rester13
                    case hyer13 => (intro w hSw; (try dsimp only at hSw); exact exec_load_mid rfl rfl (range_blk hSw.2.2.2) Try.underlying27 rfl rec_size)
                    try simp only [Act.put, List.setIfInBounds_toArray, List.set_cons_zero, List.set_cons_succ]
                    refine wpAnyH_ready (rs := [12]) (by kernel_rfl) (by simp) ?_
                    refine AllReadyH.cons (o := { dst := some 37, op := Op.call { callee := Callee.value (Operand.func 24), args := #[Operand.tmp 36], argTypes := #[27] }, type := 3, pos := "serial.go:77", after := _, guard := some (10, true) }) rfl (fun K hK => ?_) AllReadyH.nil
                    go_simp
                    refine (last_any a _).mono ?_
                    rintro e v3 ⟨rfl, hv3⟩
                    have hX3 : Below wq.heap.size wq v3 := Below.trans (Below.refl _ _).drew (hv3.mono (by first | exact Nat.le_refl _ | exact (Below.size (Below.refl _ _).drew)))
                    try go_wp2_with fail
                    refine hK.out _ _ ?_ (fun hHelder12 => ?_)
                    · exact rs_of (HBA.out.keep hX3) (HBD.out.keep hX3)
                    clear hK K hHelder
                    try simp only [Act.put, List.setIfInBounds_toArray, List.set_cons_zero, List.set_cons_succ]
                    refine wpAnyH_ready (rs := [14]) (by kernel_rfl) (by simp) ?_
                    refine AllReadyH.cons (o := { dst := some 39, op := Op.call { callee := Callee.value (Operand.func 24), args := #[Operand.tmp 38], argTypes := #[27] }, type := 3, pos := "serial.go:77", after := _, guard := some (10, true) }) rfl (fun K hK => ?_) AllReadyH.nil
                    go_simp
                    refine (last_any y _).mono ?_
                    rintro e v4 ⟨rfl, hv4⟩
                    have hX4 : Below wq.heap.size wq v4 := Below.trans hX3 (hv4.mono (by first | exact Nat.le_refl _ | exact (Below.size hX3)))
                    try go_wp2_with fail
                    refine hK.out _ _ ?_ (fun hHelder14 => ?_)
                    · exact rs_of (HBA.out.keep hX4) (HBD.out.keep hX4)
                    clear hK K hHelder12
                    try simp only [Act.put, List.setIfInBounds_toArray, List.set_cons_zero, List.set_cons_succ]
                    refine wpAnyH_take (i := 15) (oi := { dst := some 40, op := Op.binOp BinOp.gtr 3 (Operand.tmp 37) (Operand.tmp 39) 3, type := 4, pos := "serial.go:77", after := _, guard := some (10, true) }) (v := .bool false) rfl (by kernel_rfl) (by kernel_rfl) (by kernel_rfl) (fun _ _ _ h => h) (Or.inl ⟨by rfl, ?hyer15⟩) (by assumption) ?rester15
                    case hyer15 => (intro w hSw; (try dsimp only at hSw); go_simp <;> first | done | with_reducible rfl | omega | (simp; done) | (simp; omega) | (simp [*]; done) | (simp [*]; omega) | exact decide_eq_false (by omega) | exact decide_eq_true (by omega))
                    try simp only [Act.put, List.setIfInBounds_toArray, List.set_cons_zero, List.set_cons_succ]
                    refine wpAnyH_take (i := 16) (oi := { dst := some 41, op := Op.move (Operand.tmp 40), type := 4, pos := "serial.go:77", after := _, guard := some (10, true) }) (v := ?ver16) rfl (by kernel_rfl) (by kernel_rfl) (by kernel_rfl) (fun _ _ _ h => h) (Or.inl ⟨by rfl, ?hyer16⟩) (by assumption) ?rester16
                    case hyer16 => (intro w hSw; (try dsimp only at hSw); go_simp <;> with_reducible rfl)
                    try simp only [Act.put, List.setIfInBounds_toArray, List.set_cons_zero, List.set_cons_succ]
                    refine wpAnyH_take (i := 17) (oi := { dst := some 42, op := Op.load 27 (Operand.tmp 7), type := 27, pos := "serial.go:77", after := _, guard := some (16, false) }) (v := .agg (encRx y).toArray) rfl (by kernel_rfl) (by kernel_rfl) (by kernel_rfl) (fun _ _ _ h => h) (Or.inl ⟨by rfl, ?hyer17⟩) (by assumption) ?rester17
                    case hyer17 => (intro w hSw; (try dsimp only at hSw); exact exec_load_mid rfl rfl (range_blk hSw.2.2.2) Try.underlying27 rfl rec_size)
                    try simp only [Act.put, List.setIfInBounds_toArray, List.set_cons_zero, List.set_cons_succ]
                    refine wpAnyH_ready (rs := [18]) (by kernel_rfl) (by simp) ?_
                    refine AllReadyH.cons (o := { dst := some 43, op := Op.call { callee := Callee.value (Operand.func 25), args := #[Operand.tmp 42], argTypes := #[27] }, type := 4, pos := "serial.go:77", after := _, guard := some (16, false) }) rfl (fun K hK => ?_) AllReadyH.nil
                    go_simp
                    refine (hwr _).mono ?_
                    rintro e v5 ⟨rfl, hv5⟩
                    have hX5 : Below wq.heap.size wq v5 := Below.trans hX4 (hv5.mono (by first | exact Nat.le_refl _ | exact (Below.size hX4)))
                    try go_wp2_with fail
                    refine hK.out _ _ ?_ (fun hHelder18 => ?_)
                    · exact rs_of (HBA.out.keep hX5) (HBD.out.keep hX5)
                    clear hK K hHelder14
                    try simp only [Act.put, List.setIfInBounds_toArray, List.set_cons_zero, List.set_cons_succ]
                    refine wpAnyH_take (i := 19) (oi := { dst := some 44, op := Op.move (Operand.tmp 43), type := 4, pos := "serial.go:77", after := _, guard := some (16, false) }) (v := ?ver19) rfl (by kernel_rfl) (by kernel_rfl) (by kernel_rfl) (fun _ _ _ h => h) (Or.inl ⟨by rfl, ?hyer19⟩) (by assumption) ?rester19
                    case hyer19 => (intro w hSw; (try dsimp only at hSw); go_simp <;> with_reducible rfl)
                    try simp only [Act.put, List.setIfInBounds_toArray, List.set_cons_zero, List.set_cons_succ]
                    refine wpAnyH_take (i := 20) (oi := { dst := some 45, op := Op.load 27 (Operand.tmp 5), type := 27, pos := "serial.go:77", after := _, guard := some (19, true) }) (v := .agg (encRx a).toArray) rfl (by kernel_rfl) (by kernel_rfl) (by kernel_rfl) (fun _ _ _ h => h) (Or.inl ⟨by rfl, ?hyer20⟩) (by assumption) ?rester20
                    case hyer20 => (intro w hSw; (try dsimp only at hSw); exact exec_load_mid rfl rfl (range_blk hSw.2.2.1) Try.underlying27 rfl rec_size)
                    try simp only [Act.put, List.setIfInBounds_toArray, List.set_cons_zero, List.set_cons_succ]
                    refine wpAnyH_take (i := 22) (oi := { dst := some 47, op := Op.load 27 (Operand.tmp 7), type := 27, pos := "serial.go:77", after := _, guard := some (19, true) }) (v := .agg (encRx y).toArray) rfl (by kernel_rfl) (by kernel_rfl) (by kernel_rfl) (fun _ _ _ h => h) (Or.inl ⟨by rfl, ?hyer22⟩) (by assumption) ?rester22
                    case hyer22 => (intro w hSw; (try dsimp only at hSw); exact exec_load_mid rfl rfl (range_blk hSw.2.2.2) Try.underlying27 rfl rec_size)
                    try simp only [Act.put, List.setIfInBounds_toArray, List.set_cons_zero, List.set_cons_succ]
                    refine wpAnyH_ready (rs := [21]) (by kernel_rfl) (by simp) ?_
                    refine AllReadyH.cons (o := { dst := some 46, op := Op.call { callee := Callee.value (Operand.func 24), args := #[Operand.tmp 45], argTypes := #[27] }, type := 3, pos := "serial.go:77", after := _, guard := some (19, true) }) rfl (fun K hK => ?_) AllReadyH.nil
                    go_simp
                    refine (last_any a _).mono ?_
                    rintro e v6 ⟨rfl, hv6⟩
                    have hX6 : Below wq.heap.size wq v6 := Below.trans hX5 (hv6.mono (by first | exact Nat.le_refl _ | exact (Below.size hX5)))
                    try go_wp2_with fail
                    refine hK.out _ _ ?_ (fun hHelder21 => ?_)
                    · exact rs_of (HBA.out.keep hX6) (HBD.out.keep hX6)
                    clear hK K hHelder18
                    try simp only [Act.put, List.setIfInBounds_toArray, List.set_cons_zero, List.set_cons_succ]
                    refine wpAnyH_ready (rs := [23]) (by kernel_rfl) (by simp) ?_
                    refine AllReadyH.cons (o := { dst := some 48, op := Op.call { callee := Callee.value (Operand.func 24), args := #[Operand.tmp 47], argTypes := #[27] }, type := 3, pos := "serial.go:77", after := _, guard := some (19, true) }) rfl (fun K hK => ?_) AllReadyH.nil
                    go_simp
                    refine (last_any y _).mono ?_
                    rintro e v7 ⟨rfl, hv7⟩
                    have hX7 : Below wq.heap.size wq v7 := Below.trans hX6 (hv7.mono (by first | exact Nat.le_refl _ | exact (Below.size hX6)))
                    try go_wp2_with fail
                    refine hK.out _ _ ?_ (fun hHelder23 => ?_)
                    · exact rs_of (HBA.out.keep hX7) (HBD.out.keep hX7)
                    clear hK K hHelder21
                    try simp only [Act.put, List.setIfInBounds_toArray, List.set_cons_zero, List.set_cons_succ]
                    refine wpAnyH_take (i := 24) (oi := { dst := some 49, op := Op.binOp BinOp.eql 3 (Operand.tmp 46) (Operand.tmp 48) 3, type := 4, pos := "serial.go:77", after := _, guard := some (19, true) }) (v := .bool true) rfl (by kernel_rfl) (by kernel_rfl) (by kernel_rfl) (fun _ _ _ h => h) (Or.inl ⟨by rfl, ?hyer24⟩) (by assumption) ?rester24
                    case hyer24 => (intro w hSw; (try dsimp only at hSw); go_simp <;> first | done | with_reducible rfl | omega | (simp; done) | (simp; omega) | (simp [*]; done) | (simp [*]; omega) | exact decide_eq_false (by omega) | exact decide_eq_true (by omega))
                    try simp only [Act.put, List.setIfInBounds_toArray, List.set_cons_zero, List.set_cons_succ]
                    refine wpAnyH_take (i := 25) (oi := { dst := some 50, op := Op.pick (Operand.tmp 44) (Operand.tmp 49) (Operand.const (Value.bool false)), type := 4, pos := "serial.go:77", after := _, guard := some (16, false) }) (v := ?ver25) rfl (by kernel_rfl) (by kernel_rfl) (by kernel_rfl) (fun _ _ _ h => h) (Or.inl ⟨by rfl, ?hyer25⟩) (by assumption) ?rester25
                    case hyer25 => (intro w hSw; (try dsimp only at hSw); go_simp <;> with_reducible rfl)
                    try simp only [Act.put, List.setIfInBounds_toArray, List.set_cons_zero, List.set_cons_succ]
                    refine wpAnyH_take (i := 26) (oi := { dst := some 51, op := Op.pick (Operand.tmp 41) (Operand.const (Value.bool true)) (Operand.tmp 50), type := 4, pos := "serial.go:77", after := _, guard := some (10, true) }) (v := ?ver26) rfl (by kernel_rfl) (by kernel_rfl) (by kernel_rfl) (fun _ _ _ h => h) (Or.inl ⟨by rfl, ?hyer26⟩) (by assumption) ?rester26
                    case hyer26 => (intro w hSw; (try dsimp only at hSw); go_simp <;> with_reducible rfl)
                    try simp only [Act.put, List.setIfInBounds_toArray, List.set_cons_zero, List.set_cons_succ]
                    refine wpAnyH_take (i := 27) (oi := { dst := some 52, op := Op.pick (Operand.tmp 35) (Operand.tmp 51) (Operand.const (Value.bool false)), type := 4, pos := "serial.go:77", after := _, guard := none }) (v := ?ver27) rfl (by kernel_rfl) (by kernel_rfl) (by kernel_rfl) (fun _ _ _ h => h) (Or.inl ⟨by rfl, ?hyer27⟩) (by assumption) ?rester27
                    case hyer27 => (intro w hSw; (try dsimp only at hSw); go_simp <;> with_reducible rfl)
                    try simp only [Act.put, List.setIfInBounds_toArray, List.set_cons_zero, List.set_cons_succ]
                    refine wpAnyH_done (by kernel_rfl) ?_ _
                    go_wp2
                    go_ret
                    refine ⟨?_, HNX.out _ hX7 |>.1⟩
                    exact congrArg (fun b => Ending.returned (.bool b)) (HF.out i k hlt hk (fun h => by have h2 := h a HA0.out y HY0.out; rw [HBAD.out] at h2; cases h2)).symm
                  · have HBAD := Lib.hid (show badQ i k a y = false from by unfold badQ; simp [hgt, heq])
                    refine wp_region_held_drew (S := fun w' => w'.cell? ⟨B, 9, none⟩ = some (.int .i64 a.to_) ∧ w'.cell? ⟨D, 8, none⟩ = some (.int .i64 y.fr) ∧ Blk w' B 27 (encRx a).toArray ∧ Blk w' D 27 (encRx y).toArray) (by kernel_rfl) ?_ (fun hHeldfr => ?_)
                    · exact rs_of HBA.out.drew HBD.out.drew
                    refine wpAnyH_take (i := 0) (oi := { dst := some 25, op := Op.move (Operand.tmp 4), type := 3, pos := "serial.go:77", after := _, guard := none }) (v := ?vfr0) rfl (by kernel_rfl) (by kernel_rfl) (by kernel_rfl) (fun _ _ _ h => h) (Or.inl ⟨by rfl, ?hyfr0⟩) (by assumption) ?restfr0
                    case hyfr0 => (intro w hSw; (try dsimp only at hSw); go_simp <;> with_reducible rfl)
                    try simp only [Act.put, List.setIfInBounds_toArray, List.set_cons_zero, List.set_cons_succ]
                    refine wpAnyH_take (i := 1) (oi := { dst := some 26, op := Op.move (Operand.tmp 6), type := 3, pos := "serial.go:77", after := _, guard := none }) (v := ?vfr1) rfl (by kernel_rfl) (by kernel_rfl) (by kernel_rfl) (fun _ _ _ h => h) (Or.inl ⟨by rfl, ?hyfr1⟩) (by assumption) ?restfr1
                    case hyfr1 => (intro w hSw; (try dsimp only at hSw); go_simp <;> with_reducible rfl)
                    try simp only [Act.put, List.setIfInBounds_toArray, List.set_cons_zero, List.set_cons_succ]
                    refine wpAnyH_take (i := 2) (oi := { dst := some 27, op := Op.binOp BinOp.neq 3 (Operand.tmp 25) (Operand.tmp 26) 3, type := 4, pos := "serial.go:77", after := _, guard := none }) (v := .bool true) rfl (by kernel_rfl) (by kernel_rfl) (by kernel_rfl) (fun _ _ _ h => h) (Or.inl ⟨by rfl, ?hyfr2⟩) (by assumption) ?restfr2
                    case hyfr2 => (intro w hSw; (try dsimp only at hSw); go_simp <;> first | done | with_reducible rfl | omega | (simp; done) | (simp; omega) | (simp [*]; done) | (simp [*]; omega) | exact decide_eq_false (by omega) | exact decide_eq_true (by omega))
                    try simp only [Act.put, List.setIfInBounds_toArray, List.set_cons_zero, List.set_cons_succ]
                    refine wpAnyH_take (i := 3) (oi := { dst := some 28, op := Op.move (Operand.tmp 27), type := 4, pos := "serial.go:77", after := _, guard := none }) (v := ?vfr3) rfl (by kernel_rfl) (by kernel_rfl) (by kernel_rfl) (fun _ _ _ h => h) (Or.inl ⟨by rfl, ?hyfr3⟩) (by assumption) ?restfr3
                    case hyfr3 => (intro w hSw; (try dsimp only at hSw); go_simp <;> with_reducible rfl)
                    try simp only [Act.put, List.setIfInBounds_toArray, List.set_cons_zero, List.set_cons_succ]
                    refine wpAnyH_take (i := 4) (oi := { dst := some 29, op := Op.fieldAddr 27 (Operand.tmp 5) 9, type := 0, pos := "serial.go:77", after := _, guard := some (3, true) }) (v := ?vfr4) rfl (by kernel_rfl) (by kernel_rfl) (by kernel_rfl) (fun _ _ _ h => h) (Or.inl ⟨by rfl, ?hyfr4⟩) (by assumption) ?restfr4
                    case hyfr4 => (intro w hSw; (try dsimp only at hSw); go_simp <;> with_reducible rfl)
                    try simp only [Act.put, List.setIfInBounds_toArray, List.set_cons_zero, List.set_cons_succ]
                    refine wpAnyH_take (i := 5) (oi := { dst := some 30, op := Op.load 3 (Operand.tmp 29), type := 3, pos := "serial.go:77", after := _, guard := some (3, true) }) (v := ?vfr5) rfl (by kernel_rfl) (by kernel_rfl) (by kernel_rfl) (fun _ _ _ h => h) (Or.inl ⟨by rfl, ?hyfr5⟩) (by assumption) ?restfr5
                    case hyfr5 => (intro w hSw; (try dsimp only at hSw); go_simp <;> with_reducible rfl)
                    try simp only [Act.put, List.setIfInBounds_toArray, List.set_cons_zero, List.set_cons_succ]
                    refine wpAnyH_take (i := 6) (oi := { dst := some 31, op := Op.fieldAddr 27 (Operand.tmp 7) 8, type := 0, pos := "serial.go:77", after := _, guard := some (3, true) }) (v := ?vfr6) rfl (by kernel_rfl) (by kernel_rfl) (by kernel_rfl) (fun _ _ _ h => h) (Or.inl ⟨by rfl, ?hyfr6⟩) (by assumption) ?restfr6
                    case hyfr6 => (intro w hSw; (try dsimp only at hSw); go_simp <;> with_reducible rfl)
                    try simp only [Act.put, List.setIfInBounds_toArray, List.set_cons_zero, List.set_cons_succ]
                    refine wpAnyH_take (i := 7) (oi := { dst := some 32, op := Op.load 3 (Operand.tmp 31), type := 3, pos := "serial.go:77", after := _, guard := some (3, true) }) (v := ?vfr7) rfl (by kernel_rfl) (by kernel_rfl) (by kernel_rfl) (fun _ _ _ h => h) (Or.inl ⟨by rfl, ?hyfr7⟩) (by assumption) ?restfr7
                    case hyfr7 => (intro w hSw; (try dsimp only at hSw); go_simp <;> with_reducible rfl)
                    try simp only [Act.put, List.setIfInBounds_toArray, List.set_cons_zero, List.set_cons_succ]
                    refine wpAnyH_take (i := 8) (oi := { dst := some 33, op := Op.binOp BinOp.lss 3 (Operand.tmp 30) (Operand.tmp 32) 3, type := 4, pos := "serial.go:77", after := _, guard := some (3, true) }) (v := .bool true) rfl (by kernel_rfl) (by kernel_rfl) (by kernel_rfl) (fun _ _ _ h => h) (Or.inl ⟨by rfl, ?hyfr8⟩) (by assumption) ?restfr8
                    case hyfr8 => (intro w hSw; (try dsimp only at hSw); go_simp <;> first | done | with_reducible rfl | omega | (simp; done) | (simp; omega) | (simp [*]; done) | (simp [*]; omega) | exact decide_eq_false (by omega) | exact decide_eq_true (by omega))
                    try simp only [Act.put, List.setIfInBounds_toArray, List.set_cons_zero, List.set_cons_succ]
                    refine wpAnyH_take (i := 9) (oi := { dst := some 34, op := Op.pick (Operand.tmp 28) (Operand.tmp 33) (Operand.const (Value.bool false)), type := 4, pos := "serial.go:77", after := _, guard := none }) (v := ?vfr9) rfl (by kernel_rfl) (by kernel_rfl) (by kernel_rfl) (fun _ _ _ h => h) (Or.inl ⟨by rfl, ?hyfr9⟩) (by assumption) ?restfr9
                    case hyfr9 => (intro w hSw; (try dsimp only at hSw); go_simp <;> with_reducible rfl)
                    try simp only [Act.put, List.setIfInBounds_toArray, List.set_cons_zero, List.set_cons_succ]
                    refine wpAnyH_take (i := 10) (oi := { dst := some 35, op := Op.move (Operand.tmp 34), type := 4, pos := "serial.go:77", after := _, guard := none }) (v := ?vfr10) rfl (by kernel_rfl) (by kernel_rfl) (by kernel_rfl) (fun _ _ _ h => h) (Or.inl ⟨by rfl, ?hyfr10⟩) (by assumption) ?restfr10
                    case hyfr10 => (intro w hSw; (try dsimp only at hSw); go_simp <;> with_reducible rfl)
                    try simp only [Act.put, List.setIfInBounds_toArray, List.set_cons_zero, List.set_cons_succ]
                    refine wpAnyH_take (i := 11) (oi := { dst := some 36, op := Op.load 27 (Operand.tmp 5), type := 27, pos := "serial.go:77", after := _, guard := some (10, true) }) (v := .agg (encRx a).toArray) rfl (by kernel_rfl) (by kernel_rfl) (by kernel_rfl) (fun _ _ _ h => h) (Or.inl ⟨by rfl, ?hyfr11⟩) (by assumption) ?restfr11
                    case hyfr11 => (intro w hSw; (try dsimp only at hSw); exact exec_load_mid rfl rfl (range_blk hSw.2.2.1) Try.underlying27 rfl rec_size)
                    try simp only [Act.put, List.setIfInBounds_toArray, List.set_cons_zero, List.set_cons_succ]
                    refine wpAnyH_take (i := 13) (oi := { dst := some 38, op := Op.load 27 (Operand.tmp 7), type := 27, pos := "serial.go:77", after := _, guard := some (10, true) }) (v := .agg (encRx y).toArray) rfl (by kernel_rfl) (by kernel_rfl) (by kernel_rfl) (fun _ _ _ h => h) (Or.inl ⟨by rfl, ?hyfr13⟩) (by assumption) ?restfr13
                    case hyfr13 => (intro w hSw; (try dsimp only at hSw); exact exec_load_mid rfl rfl (range_blk hSw.2.2.2) Try.underlying27 rfl rec_size)
                    try simp only [Act.put, List.setIfInBounds_toArray, List.set_cons_zero, List.set_cons_succ]
                    refine wpAnyH_ready (rs := [12]) (by kernel_rfl) (by simp) ?_
                    refine AllReadyH.cons (o := { dst := some 37, op := Op.call { callee := Callee.value (Operand.func 24), args := #[Operand.tmp 36], argTypes := #[27] }, type := 3, pos := "serial.go:77", after := _, guard := some (10, true) }) rfl (fun K hK => ?_) AllReadyH.nil
                    go_simp
                    refine (last_any a _).mono ?_
                    rintro e v3 ⟨rfl, hv3⟩
                    have hX3 : Below wq.heap.size wq v3 := Below.trans (Below.refl _ _).drew (hv3.mono (by first | exact Nat.le_refl _ | exact (Below.size (Below.refl _ _).drew)))
                    try go_wp2_with fail
                    refine hK.out _ _ ?_ (fun hHeldfr12 => ?_)
                    · exact rs_of (HBA.out.keep hX3) (HBD.out.keep hX3)
                    clear hK K hHeldfr
                    try simp only [Act.put, List.setIfInBounds_toArray, List.set_cons_zero, List.set_cons_succ]
                    refine wpAnyH_ready (rs := [14]) (by kernel_rfl) (by simp) ?_
                    refine AllReadyH.cons (o := { dst := some 39, op := Op.call { callee := Callee.value (Operand.func 24), args := #[Operand.tmp 38], argTypes := #[27] }, type := 3, pos := "serial.go:77", after := _, guard := some (10, true) }) rfl (fun K hK => ?_) AllReadyH.nil
                    go_simp
                    refine (last_any y _).mono ?_
                    rintro e v4 ⟨rfl, hv4⟩
                    have hX4 : Below wq.heap.size wq v4 := Below.trans hX3 (hv4.mono (by first | exact Nat.le_refl _ | exact (Below.size hX3)))
                    try go_wp2_with fail
                    refine hK.out _ _ ?_ (fun hHeldfr14 => ?_)
                    · exact rs_of (HBA.out.keep hX4) (HBD.out.keep hX4)
                    clear hK K hHeldfr12
                    try simp only [Act.put, List.setIfInBounds_toArray, List.set_cons_zero, List.set_cons_succ]
                    refine wpAnyH_take (i := 15) (oi := { dst := some 40, op := Op.binOp BinOp.gtr 3 (Operand.tmp 37) (Operand.tmp 39) 3, type := 4, pos := "serial.go:77", after := _, guard := some (10, true) }) (v := .bool false) rfl (by kernel_rfl) (by kernel_rfl) (by kernel_rfl) (fun _ _ _ h => h) (Or.inl ⟨by rfl, ?hyfr15⟩) (by assumption) ?restfr15
                    case hyfr15 => (intro w hSw; (try dsimp only at hSw); go_simp <;> first | done | with_reducible rfl | omega | (simp; done) | (simp; omega) | (simp [*]; done) | (simp [*]; omega) | exact decide_eq_false (by omega) | exact decide_eq_true (by omega))
                    try simp only [Act.put, List.setIfInBounds_toArray, List.set_cons_zero, List.set_cons_succ]
                    refine wpAnyH_take (i := 16) (oi := { dst := some 41, op := Op.move (Operand.tmp 40), type := 4, pos := "serial.go:77", after := _, guard := some (10, true) }) (v := ?vfr16) rfl (by kernel_rfl) (by kernel_rfl) (by kernel_rfl) (fun _ _ _ h => h) (Or.inl ⟨by rfl, ?hyfr16⟩) (by assumption) ?restfr16
                    case hyfr16 => (intro w hSw; (try dsimp only at hSw); go_simp <;> with_reducible rfl)
                    try simp only [Act.put, List.setIfInBounds_toArray, List.set_cons_zero, List.set_cons_succ]
                    refine wpAnyH_take (i := 17) (oi := { dst := some 42, op := Op.load 27 (Operand.tmp 7), type := 27, pos := "serial.go:77", after := _, guard := some (16, false) }) (v := .agg (encRx y).toArray) rfl (by kernel_rfl) (by kernel_rfl) (by kernel_rfl) (fun _ _ _ h => h) (Or.inl ⟨by rfl, ?hyfr17⟩) (by assumption) ?restfr17
                    case hyfr17 => (intro w hSw; (try dsimp only at hSw); exact exec_load_mid rfl rfl (range_blk hSw.2.2.2) Try.underlying27 rfl rec_size)
                    try simp only [Act.put, List.setIfInBounds_toArray, List.set_cons_zero, List.set_cons_succ]
                    refine wpAnyH_ready (rs := [18]) (by kernel_rfl) (by simp) ?_
                    refine AllReadyH.cons (o := { dst := some 43, op := Op.call { callee := Callee.value (Operand.func 25), args := #[Operand.tmp 42], argTypes := #[27] }, type := 4, pos := "serial.go:77", after := _, guard := some (16, false) }) rfl (fun K hK => ?_) AllReadyH.nil
                    go_simp
                    refine (hwr _).mono ?_
                    rintro e v5 ⟨rfl, hv5⟩
                    have hX5 : Below wq.heap.size wq v5 := Below.trans hX4 (hv5.mono (by first | exact Nat.le_refl _ | exact (Below.size hX4)))
                    try go_wp2_with fail
                    refine hK.out _ _ ?_ (fun hHeldfr18 => ?_)
                    · exact rs_of (HBA.out.keep hX5) (HBD.out.keep hX5)
                    clear hK K hHeldfr14
                    try simp only [Act.put, List.setIfInBounds_toArray, List.set_cons_zero, List.set_cons_succ]
                    refine wpAnyH_take (i := 19) (oi := { dst := some 44, op := Op.move (Operand.tmp 43), type := 4, pos := "serial.go:77", after := _, guard := some (16, false) }) (v := ?vfr19) rfl (by kernel_rfl) (by kernel_rfl) (by kernel_rfl) (fun _ _ _ h => h) (Or.inl ⟨by rfl, ?hyfr19⟩) (by assumption) ?restfr19
                    case hyfr19 => (intro w hSw; (try dsimp only at hSw); go_simp <;> with_reducible rfl)
                    try simp only [Act.put, List.setIfInBounds_toArray, List.set_cons_zero, List.set_cons_succ]
                    refine wpAnyH_take (i := 20) (oi := { dst := some 45, op := Op.load 27 (Operand.tmp 5), type := 27, pos := "serial.go:77", after := _, guard := some (19, true) }) (v := .agg (encRx a).toArray) rfl (by kernel_rfl) (by kernel_rfl) (by kernel_rfl) (fun _ _ _ h => h) (Or.inl ⟨by rfl, ?hyfr20⟩) (by assumption) ?restfr20
                    case hyfr20 => (intro w hSw; (try dsimp only at hSw); exact exec_load_mid rfl rfl (range_blk hSw.2.2.1) Try.underlying27 rfl rec_size)
                    try simp only [Act.put, List.setIfInBounds_toArray, List.set_cons_zero, List.set_cons_succ]
                    refine wpAnyH_take (i := 22) (oi := { dst := some 47, op := Op.load 27 (Operand.tmp 7), type := 27, pos := "serial.go:77", after := _, guard := some (19, true) }) (v := .agg (encRx y).toArray) rfl (by kernel_rfl) (by kernel_rfl) (by kernel_rfl) (fun _ _ _ h => h) (Or.inl ⟨by rfl, ?hyfr22⟩) (by assumption) ?restfr22
                    case hyfr22 => (intro w hSw; (try dsimp only at hSw); exact exec_load_mid rfl rfl (range_blk hSw.2.2.2) Try.underlying27 rfl rec_size)
                    try simp only [Act.put, List.setIfInBounds_toArray, List.set_cons_zero, List.set_cons_succ]
                    refine wpAnyH_ready (rs := [21]) (by kernel_rfl) (by simp) ?_
                    refine AllReadyH.cons (o := { dst := some 46, op := Op.call { callee := Callee.value (Operand.func 24), args := #[Operand.tmp 45], argTypes := #[27] }, type := 3, pos := "serial.go:77", after := _, guard := some (19, true) }) rfl (fun K hK => ?_) AllReadyH.nil
                    go_simp
                    refine (last_any a _).mono ?_
                    rintro e v6 ⟨rfl, hv6⟩
                    have hX6 : Below wq.heap.size wq v6 := Below.trans hX5 (hv6.mono (by first | exact Nat.le_refl _ | exact (Below.size hX5)))
                    try go_wp2_with fail
                    refine hK.out _ _ ?_ (fun hHeldfr21 => ?_)
                    · exact rs_of (HBA.out.keep hX6) (HBD.out.keep hX6)
                    clear hK K hHeldfr18
                    try simp only [Act.put, List.setIfInBounds_toArray, List.set_cons_zero, List.set_cons_succ]
                    refine wpAnyH_ready (rs := [23]) (by kernel_rfl) (by simp) ?_
                    refine AllReadyH.cons (o := { dst := some 48, op := Op.call { callee := Callee.value (Operand.func 24), args := #[Operand.tmp 47], argTypes := #[27] }, type := 3, pos := "serial.go:77", after := _, guard := some (19, true) }) rfl (fun K hK => ?_) AllReadyH.nil
                    go_simp
                    refine (last_any y _).mono ?_
                    rintro e v7 ⟨rfl, hv7⟩
                    have hX7 : Below wq.heap.size wq v7 := Below.trans hX6 (hv7.mono (by first | exact Nat.le_refl _ | exact (Below.size hX6)))
                    try go_wp2_with fail
                    refine hK.out _ _ ?_ (fun hHeldfr23 => ?_)
                    · exact rs_of (HBA.out.keep hX7) (HBD.out.keep hX7)
                    clear hK K hHeldfr21
                    try simp only [Act.put, List.setIfInBounds_toArray, List.set_cons_zero, List.set_cons_succ]
                    refine wpAnyH_take (i := 24) (oi := { dst := some 49, op := Op.binOp BinOp.eql 3 (Operand.tmp 46) (Operand.tmp 48) 3, type := 4, pos := "serial.go:77", after := _, guard := some (19, true) }) (v := .bool false) rfl (by kernel_rfl) (by kernel_rfl) (by kernel_rfl) (fun _ _ _ h => h) (Or.inl ⟨by rfl, ?hyfr24⟩) (by assumption) ?restfr24
                    case hyfr24 => (intro w hSw; (try dsimp only at hSw); go_simp <;> first | done | with_reducible rfl | omega | (simp; done) | (simp; omega) | (simp [*]; done) | (simp [*]; omega) | exact decide_eq_false (by omega) | exact decide_eq_true (by omega))
                    try simp only [Act.put, List.setIfInBounds_toArray, List.set_cons_zero, List.set_cons_succ]
                    refine wpAnyH_take (i := 25) (oi := { dst := some 50, op := Op.pick (Operand.tmp 44) (Operand.tmp 49) (Operand.const (Value.bool false)), type := 4, pos := "serial.go:77", after := _, guard := some (16, false) }) (v := ?vfr25) rfl (by kernel_rfl) (by kernel_rfl) (by kernel_rfl) (fun _ _ _ h => h) (Or.inl ⟨by rfl, ?hyfr25⟩) (by assumption) ?restfr25
                    case hyfr25 => (intro w hSw; (try dsimp only at hSw); go_simp <;> with_reducible rfl)
                    try simp only [Act.put, List.setIfInBounds_toArray, List.set_cons_zero, List.set_cons_succ]
                    refine wpAnyH_take (i := 26) (oi := { dst := some 51, op := Op.pick (Operand.tmp 41) (Operand.const (Value.bool true)) (Operand.tmp 50), type := 4, pos := "serial.go:77", after := _, guard := some (10, true) }) (v := ?vfr26) rfl (by kernel_rfl) (by kernel_rfl) (by kernel_rfl) (fun _ _ _ h => h) (Or.inl ⟨by rfl, ?hyfr26⟩) (by assumption) ?restfr26
                    case hyfr26 => (intro w hSw; (try dsimp only at hSw); go_simp <;> with_reducible rfl)
                    try simp only [Act.put, List.setIfInBounds_toArray, List.set_cons_zero, List.set_cons_succ]
                    refine wpAnyH_take (i := 27) (oi := { dst := some 52, op := Op.pick (Operand.tmp 35) (Operand.tmp 51) (Operand.const (Value.bool false)), type := 4, pos := "serial.go:77", after := _, guard := none }) (v := ?vfr27) rfl (by kernel_rfl) (by kernel_rfl) (by kernel_rfl) (fun _ _ _ h => h) (Or.inl ⟨by rfl, ?hyfr27⟩) (by assumption) ?restfr27
                    case hyfr27 => (intro w hSw; (try dsimp only at hSw); go_simp <;> with_reducible rfl)
                    try simp only [Act.put, List.setIfInBounds_toArray, List.set_cons_zero, List.set_cons_succ]
                    refine wpAnyH_done (by kernel_rfl) ?_ _
                    go_wp2
                    go_roundg (n - (k + 1))
                    case measure => omega
                    case rel => exact ⟨k + 1, by go_num, by omega, by omega, (show Hid _ from ⟨HST.out HBAD.out, HNX.out _ hX7⟩)⟩
            · have HBAD := Lib.hid (show badQ i k a y = false from by unfold badQ; simp [hto])
              refine wp_region_held_drew (S := fun w' => w'.cell? ⟨B, 9, none⟩ = some (.int .i64 a.to_) ∧ w'.cell? ⟨D, 8, none⟩ = some (.int .i64 y.fr) ∧ Blk w' B 27 (encRx a).toArray ∧ Blk w' D 27 (encRx y).toArray) (by kernel_rfl) ?_ (fun hHeldgr => ?_)
              · exact rs_of HBA.out.drew HBD.out.drew
              refine wpAnyH_take (i := 0) (oi := { dst := some 25, op := Op.move (Operand.tmp 4), type := 3, pos := "serial.go:77", after := _, guard := none }) (v := ?vgr0) rfl (by kernel_rfl) (by kernel_rfl) (by kernel_rfl) (fun _ _ _ h => h) (Or.inl ⟨by rfl, ?hygr0⟩) (by assumption) ?restgr0
              case hygr0 => (intro w hSw; (try dsimp only at hSw); go_simp <;> with_reducible rfl)
              try simp only [Act.put, List.setIfInBounds_toArray, List.set_cons_zero, List.set_cons_succ]
              refine wpAnyH_take (i := 1) (oi := { dst := some 26, op := Op.move (Operand.tmp 6), type := 3, pos := "serial.go:77", after := _, guard := none }) (v := ?vgr1) rfl (by kernel_rfl) (by kernel_rfl) (by kernel_rfl) (fun _ _ _ h => h) (Or.inl ⟨by rfl, ?hygr1⟩) (by assumption) ?restgr1
              case hygr1 => (intro w hSw; (try dsimp only at hSw); go_simp <;> with_reducible rfl)
              try simp only [Act.put, List.setIfInBounds_toArray, List.set_cons_zero, List.set_cons_succ]
              refine wpAnyH_take (i := 2) (oi := { dst := some 27, op := Op.binOp BinOp.neq 3 (Operand.tmp 25) (Operand.tmp 26) 3, type := 4, pos := "serial.go:77", after := _, guard := none }) (v := .bool true) rfl (by kernel_rfl) (by kernel_rfl) (by kernel_rfl) (fun _ _ _ h => h) (Or.inl ⟨by rfl, ?hygr2⟩) (by assumption) ?restgr2
              case hygr2 => (intro w hSw; (try dsimp only at hSw); go_simp <;> first | done | with_reducible rfl | omega | (simp; done) | (simp; omega) | (simp [*]; done) | (simp [*]; omega) | exact decide_eq_false (by omega) | exact decide_eq_true (by omega))
              try simp only [Act.put, List.setIfInBounds_toArray, List.set_cons_zero, List.set_cons_succ]
              refine wpAnyH_take (i := 3) (oi := { dst := some 28, op := Op.move (Operand.tmp 27), type := 4, pos := "serial.go:77", after := _, guard := none }) (v := ?vgr3) rfl (by kernel_rfl) (by kernel_rfl) (by kernel_rfl) (fun _ _ _ h => h) (Or.inl ⟨by rfl, ?hygr3⟩) (by assumption) ?restgr3
              case hygr3 => (intro w hSw; (try dsimp only at hSw); go_simp <;> with_reducible rfl)
              try simp only [Act.put, List.setIfInBounds_toArray, List.set_cons_zero, List.set_cons_succ]
              refine wpAnyH_take (i := 4) (oi := { dst := some 29, op := Op.fieldAddr 27 (Operand.tmp 5) 9, type := 0, pos := "serial.go:77", after := _, guard := some (3, true) }) (v := ?vgr4) rfl (by kernel_rfl) (by kernel_rfl) (by kernel_rfl) (fun _ _ _ h => h) (Or.inl ⟨by rfl, ?hygr4⟩) (by assumption) ?restgr4
              case hygr4 => (intro w hSw; (try dsimp only at hSw); go_simp <;> with_reducible rfl)
              try simp only [Act.put, List.setIfInBounds_toArray, List.set_cons_zero, List.set_cons_succ]
              refine wpAnyH_take (i := 5) (oi := { dst := some 30, op := Op.load 3 (Operand.tmp 29), type := 3, pos := "serial.go:77", after := _, guard := some (3, true) }) (v := ?vgr5) rfl (by kernel_rfl) (by kernel_rfl) (by kernel_rfl) (fun _ _ _ h => h) (Or.inl ⟨by rfl, ?hygr5⟩) (by assumption) ?restgr5
              case hygr5 => (intro w hSw; (try dsimp only at hSw); go_simp <;> with_reducible rfl)
              try simp only [Act.put, List.setIfInBounds_toArray, List.set_cons_zero, List.set_cons_succ]
              refine wpAnyH_take (i := 6) (oi := { dst := some 31, op := Op.fieldAddr 27 (Operand.tmp 7) 8, type := 0, pos := "serial.go:77", after := _, guard := some (3, true) }) (v := ?vgr6) rfl (by kernel_rfl) (by kernel_rfl) (by kernel_rfl) (fun _ _ _ h => h) (Or.inl ⟨by rfl, ?hygr6⟩) (by assumption) ?restgr6
              case hygr6 => (intro w hSw; (try dsimp only at hSw); go_simp <;> with_reducible rfl)
              try simp only [Act.put, List.setIfInBounds_toArray, List.set_cons_zero, List.set_cons_succ]
              refine wpAnyH_take (i := 7) (oi := { dst := some 32, op := Op.load 3 (Operand.tmp 31), type := 3, pos := "serial.go:77", after := _, guard := some (3, true) }) (v := ?vgr7) rfl (by kernel_rfl) (by kernel_rfl) (by kernel_rfl) (fun _ _ _ h => h) (Or.inl ⟨by rfl, ?hygr7⟩) (by assumption) ?restgr7
              case hygr7 => (intro w hSw; (try dsimp only at hSw); go_simp <;> with_reducible rfl)
              try simp only [Act.put, List.setIfInBounds_toArray, List.set_cons_zero, List.set_cons_succ]
              refine wpAnyH_take (i := 8) (oi := { dst := some 33, op := Op.binOp BinOp.lss 3 (Operand.tmp 30) (Operand.tmp 32) 3, type := 4, pos := "serial.go:77", after := _, guard := some (3, true) }) (v := .bool false) rfl (by kernel_rfl) (by kernel_rfl) (by kernel_rfl) (fun _ _ _ h => h) (Or.inl ⟨by rfl, ?hygr8⟩) (by assumption) ?restgr8
              case hygr8 => (intro w hSw; (try dsimp only at hSw); go_simp <;> first | done | with_reducible rfl | omega | (simp; done) | (simp; omega) | (simp [*]; done) | (simp [*]; omega) | exact decide_eq_false (by omega) | exact decide_eq_true (by omega))
              try simp only [Act.put, List.setIfInBounds_toArray, List.set_cons_zero, List.set_cons_succ]
              refine wpAnyH_take (i := 9) (oi := { dst := some 34, op := Op.pick (Operand.tmp 28) (Operand.tmp 33) (Operand.const (Value.bool false)), type := 4, pos := "serial.go:77", after := _, guard := none }) (v := ?vgr9) rfl (by kernel_rfl) (by kernel_rfl) (by kernel_rfl) (fun _ _ _ h => h) (Or.inl ⟨by rfl, ?hygr9⟩) (by assumption) ?restgr9
              case hygr9 => (intro w hSw; (try dsimp only at hSw); go_simp <;> with_reducible rfl)
              try simp only [Act.put, List.setIfInBounds_toArray, List.set_cons_zero, List.set_cons_succ]
              refine wpAnyH_take (i := 10) (oi := { dst := some 35, op := Op.move (Operand.tmp 34), type := 4, pos := "serial.go:77", after := _, guard := none }) (v := ?vgr10) rfl (by kernel_rfl) (by kernel_rfl) (by kernel_rfl) (fun _ _ _ h => h) (Or.inl ⟨by rfl, ?hygr10⟩) (by assumption) ?restgr10
              case hygr10 => (intro w hSw; (try dsimp only at hSw); go_simp <;> with_reducible rfl)
              try simp only [Act.put, List.setIfInBounds_toArray, List.set_cons_zero, List.set_cons_succ]
              refine wpAnyH_take (i := 11) (oi := { dst := some 36, op := Op.load 27 (Operand.tmp 5), type := 27, pos := "serial.go:77", after := _, guard := some (10, true) }) rfl (by kernel_rfl) (by kernel_rfl) (by kernel_rfl) (fun _ _ _ h => h) (Or.inr ⟨by rfl, rfl⟩) (by assumption) ?_
              try simp only [Act.put, List.setIfInBounds_toArray, List.set_cons_zero, List.set_cons_succ]
              refine wpAnyH_take (i := 12) (oi := { dst := some 37, op := Op.call { callee := Callee.value (Operand.func 24), args := #[Operand.tmp 36], argTypes := #[27] }, type := 3, pos := "serial.go:77", after := _, guard := some (10, true) }) rfl (by kernel_rfl) (by kernel_rfl) (by kernel_rfl) (fun _ _ _ h => h) (Or.inr ⟨by rfl, rfl⟩) (by assumption) ?_
              try simp only [Act.put, List.setIfInBounds_toArray, List.set_cons_zero, List.set_cons_succ]
              refine wpAnyH_take (i := 13) (oi := { dst := some 38, op := Op.load 27 (Operand.tmp 7), type := 27, pos := "serial.go:77", after := _, guard := some (10, true) }) rfl (by kernel_rfl) (by kernel_rfl) (by kernel_rfl) (fun _ _ _ h => h) (Or.inr ⟨by rfl, rfl⟩) (by assumption) ?_
              try simp only [Act.put, List.setIfInBounds_toArray, List.set_cons_zero, List.set_cons_succ]
              refine wpAnyH_take (i := 14) (oi := { dst := some 39, op := Op.call { callee := Callee.value (Operand.func 24), args := #[Operand.tmp 38], argTypes := #[27] }, type := 3, pos := "serial.go:77", after := _, guard := some (10, true) }) rfl (by kernel_rfl) (by kernel_rfl) (by kernel_rfl) (fun _ _ _ h => h) (Or.inr ⟨by rfl, rfl⟩) (by assumption) ?_
              try simp only [Act.put, List.setIfInBounds_toArray, List.set_cons_zero, List.set_cons_succ]
              refine wpAnyH_take (i := 15) (oi := { dst := some 40, op := Op.binOp BinOp.gtr 3 (Operand.tmp 37) (Operand.tmp 39) 3, type := 4, pos := "serial.go:77", after := _, guard := some (10, true) }) rfl (by kernel_rfl) (by kernel_rfl) (by kernel_rfl) (fun _ _ _ h => h) (Or.inr ⟨by rfl, rfl⟩) (by assumption) ?_
              try simp only [Act.put, List.setIfInBounds_toArray, List.set_cons_zero, List.set_cons_succ]
              refine wpAnyH_take (i := 16) (oi := { dst := some 41, op := Op.move (Operand.tmp 40), type := 4, pos := "serial.go:77", after := _, guard := some (10, true) }) rfl (by kernel_rfl) (by kernel_rfl) (by kernel_rfl) (fun _ _ _ h => h) (Or.inr ⟨by rfl, rfl⟩) (by assumption) ?_
              try simp only [Act.put, List.setIfInBounds_toArray, List.set_cons_zero, List.set_cons_succ]
              refine wpAnyH_take (i := 17) (oi := { dst := some 42, op := Op.load 27 (Operand.tmp 7), type := 27, pos := "serial.go:77", after := _, guard := some (16, false) }) rfl (by kernel_rfl) (by kernel_rfl) (by kernel_rfl) (fun _ _ _ h => h) (Or.inr ⟨by rfl, rfl⟩) (by assumption) ?_
              try simp only [Act.put, List.setIfInBounds_toArray, List.set_cons_zero, List.set_cons_succ]
              refine wpAnyH_take (i := 18) (oi := { dst := some 43, op := Op.call { callee := Callee.value (Operand.func 25), args := #[Operand.tmp 42], argTypes := #[27] }, type := 4, pos := "serial.go:77", after := _, guard := some (16, false) }) rfl (by kernel_rfl) (by kernel_rfl) (by kernel_rfl) (fun _ _ _ h => h) (Or.inr ⟨by rfl, rfl⟩) (by assumption) ?_
              try simp only [Act.put, List.setIfInBounds_toArray, List.set_cons_zero, List.set_cons_succ]
              refine wpAnyH_take (i := 19) (oi := { dst := some 44, op := Op.move (Operand.tmp 43), type := 4, pos := "serial.go:77", after := _, guard := some (16, false) }) rfl (by kernel_rfl) (by kernel_rfl) (by kernel_rfl) (fun _ _ _ h => h) (Or.inr ⟨by rfl, rfl⟩) (by assumption) ?_
              try simp only [Act.put, List.setIfInBounds_toArray, List.set_cons_zero, List.set_cons_succ]
              refine wpAnyH_take (i := 20) (oi := { dst := some 45, op := Op.load 27 (Operand.tmp 5), type := 27, pos := "serial.go:77", after := _, guard := some (19, true) }) rfl (by kernel_rfl) (by kernel_rfl) (by kernel_rfl) (fun _ _ _ h => h) (Or.inr ⟨by rfl, rfl⟩) (by assumption) ?_
              try simp only [Act.put, List.setIfInBounds_toArray, List.set_cons_zero, List.set_cons_succ]
              refine wpAnyH_take (i := 21) (oi := { dst := some 46, op := Op.call { callee := Callee.value (Operand.func 24), args := #[Operand.tmp 45], argTypes := #[27] }, type := 3, pos := "serial.go:77", after := _, guard := some (19, true) }) rfl (by kernel_rfl) (by kernel_rfl) (by kernel_rfl) (fun _ _ _ h => h) (Or.inr ⟨by rfl, rfl⟩) (by assumption) ?_
              try simp only [Act.put, List.setIfInBounds_toArray, List.set_cons_zero, List.set_cons_succ]
              refine wpAnyH_take (i := 22) (oi := { dst := some 47, op := Op.load 27 (Operand.tmp 7), type := 27, pos := "serial.go:77", after := _, guard := some (19, true) }) rfl (by kernel_rfl) (by kernel_rfl) (by kernel_rfl) (fun _ _ _ h => h) (Or.inr ⟨by rfl, rfl⟩) (by assumption) ?_
              try simp only [Act.put, List.setIfInBounds_toArray, List.set_cons_zero, List.set_cons_succ]
              refine wpAnyH_take (i := 23) (oi := { dst := some 48, op := Op.call { callee := Callee.value (Operand.func 24), args := #[Operand.tmp 47], argTypes := #[27] }, type := 3, pos := "serial.go:77", after := _, guard := some (19, true) }) rfl (by kernel_rfl) (by kernel_rfl) (by kernel_rfl) (fun _ _ _ h => h) (Or.inr ⟨by rfl, rfl⟩) (by assumption) ?_
              try simp only [Act.put, List.setIfInBounds_toArray, List.set_cons_zero, List.set_cons_succ]
              refine wpAnyH_take (i := 24) (oi := { dst := some 49, op := Op.binOp BinOp.eql 3 (Operand.tmp 46) (Operand.tmp 48) 3, type := 4, pos := "serial.go:77", after := _, guard := some (19, true) }) rfl (by kernel_rfl) (by kernel_rfl) (by kernel_rfl) (fun _ _ _ h => h) (Or.inr ⟨by rfl, rfl⟩) (by assumption) ?_
              try simp only [Act.put, List.setIfInBounds_toArray, List.set_cons_zero, List.set_cons_succ]
              refine wpAnyH_take (i := 25) (oi := { dst := some 50, op := Op.pick (Operand.tmp 44) (Operand.tmp 49) (Operand.const (Value.bool false)), type := 4, pos := "serial.go:77", after := _, guard := some (16, false) }) rfl (by kernel_rfl) (by kernel_rfl) (by kernel_rfl) (fun _ _ _ h => h) (Or.inr ⟨by rfl, rfl⟩) (by assumption) ?_
              try simp only [Act.put, List.setIfInBounds_toArray, List.set_cons_zero, List.set_cons_succ]
              refine wpAnyH_take (i := 26) (oi := { dst := some 51, op := Op.pick (Operand.tmp 41) (Operand.const (Value.bool true)) (Operand.tmp 50), type := 4, pos := "serial.go:77", after := _, guard := some (10, true) }) rfl (by kernel_rfl) (by kernel_rfl) (by kernel_rfl) (fun _ _ _ h => h) (Or.inr ⟨by rfl, rfl⟩) (by assumption) ?_
              try simp only [Act.put, List.setIfInBounds_toArray, List.set_cons_zero, List.set_cons_succ]
              refine wpAnyH_take (i := 27) (oi := { dst := some 52, op := Op.pick (Operand.tmp 35) (Operand.tmp 51) (Operand.const (Value.bool false)), type := 4, pos := "serial.go:77", after := _, guard := none }) (v := ?vgr27) rfl (by kernel_rfl) (by kernel_rfl) (by kernel_rfl) (fun _ _ _ h => h) (Or.inl ⟨by rfl, ?hygr27⟩) (by assumption) ?restgr27
              case hygr27 => (intro w hSw; (try dsimp only at hSw); go_simp <;> with_reducible rfl)
              try simp only [Act.put, List.setIfInBounds_toArray, List.set_cons_zero, List.set_cons_succ]
              refine wpAnyH_done (by kernel_rfl) ?_ _
              go_wp2
              go_roundg (n - (k + 1))
              case measure => omega
              case rel => exact ⟨k + 1, by go_num, by omega, by omega, (show Hid _ from ⟨HST.out HBAD.out, HNX.out _ (Below.refl _ _).drew⟩)⟩
        · obtain rfl : k = n := by omega
          go_wp2
          go_roundg (k - (i + 1))
          case measure => omega
          case rel => exact ⟨i + 1, by go_num, by omega, by omega, (show Hid _ from ⟨fun i' hi' => (by
              rcases Nat.lt_or_ge i' i with h1 | h1
              · exact HI.out.1 i' h1
              · obtain rfl : i' = i := by omega
                exact HJ.out.1), HJ.out.2.1, HJ.out.2.2.1⟩)⟩
    · obtain rfl : i = n := by omega
      go_wp2
      go_ret
      exact ⟨congrArg (fun b => Ending.returned (.bool b)) (HT.out HI.out.1).symm, HI.out.2.1⟩
end Go.Proofs.Ytmcbnpeihedcaaa
