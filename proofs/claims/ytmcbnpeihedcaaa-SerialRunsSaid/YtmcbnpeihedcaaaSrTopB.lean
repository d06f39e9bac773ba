/- Several texts in one: SrReal, SrFin, SrAwake. -/
import Derived.Test.YtmcbnpeihedcaaaSrWrA
import Derived.Test.YtmcbnpeihedcaaaCopy
import Derived.Test.YtmcbnpeihedcaaaStSerA
import Derived.Test.YtmcbnpeihedcaaaSrTopA
namespace Go.Proofs.Ytmcbnpeihedcaaa
set_option linter.unusedSimpArgs false
open Go Go.RowKit
set_option linter.unusedVariables false
attribute [local go_sem ↓] Go.wp_at_zero Go.wp_at_succ

theorem real1_any (x : Rx) (w : World) : Calls Try.prog 23 #[.agg (encRx x).toArray] w fun e w' => e = .returned (.bool (x.en != 0)) ∧ Below w.heap.size w w' := by
  have hb0 : Below w.heap.size w (w.alloc (.cells (encRx x).toArray 27)) := (Below.refl _ w).alloc (Nat.le_refl _) _
  simp only [encRx] at hb0 ⊢
  go_enter Try.func23, Try.ntmps23
  go_wp2
  go_ret
  exact ⟨rfl, hb0⟩

/-- Is it of the second that the first one is behind, and should not be? -/
def badQ (i k : Nat) (a b : Rx) : Bool := decide (i ≠ k) && (decide (a.to_ < b.fr) && (decide (lastX b < lastX a) || (writesX b && decide (lastX a = lastX b))))
def fineQ (l : List Rx) (i k : Nat) : Prop := ∀ a ∈ l[i]?, ∀ b ∈ l[k]?, badQ i k a b = false
instance (l : List Rx) (i k : Nat) : Decidable (fineQ l i k) := by unfold fineQ; infer_instance
def realL (h : List Rx) : Bool := decide (∀ i < (h.filter (fun x => x.en == 0)).length, ∀ k < (h.filter (fun x => x.en == 0)).length, fineQ (h.filter (fun x => x.en == 0)) i k)

theorem range_blk {w : World} {g : Nat} {t : TypeId} {cs : List Value} (h : Blk w g t cs.toArray) : w.rangeAt g 0 cs := fun j v hv => by
  rw [Nat.zero_add, h.cell, List.getElem?_toArray]; exact hv
theorem rs_of {W : World} {B D : Nat} {a y : Rx} (h1 : Blk W B 27 (encRx a).toArray) (h2 : Blk W D 27 (encRx y).toArray) :
    W.cell? ⟨B, 9, none⟩ = some (.int .i64 a.to_) ∧ W.cell? ⟨D, 8, none⟩ = some (.int .i64 y.fr) ∧ Blk W B 27 (encRx a).toArray ∧ Blk W D 27 (encRx y).toArray :=
  ⟨by rw [h1.cell]; rfl, by rw [h2.cell]; rfl, h1, h2⟩

set_option maxRecDepth 100000 in
set_option maxHeartbeats 4000000 in
theorem real_any (v : Value) (h : List Rx) (w : World) (hv : RecsV w v h) (hl : h.length ≤ 100000) :
    Calls Try.prog 14 #[v] w fun e w' => e = .returned (.bool (realL h)) ∧ Below w.heap.size w w' := by
  have e1 : ∀ args w, (callFunc 23 args).run Try.prog w = .ok (.enter 23 args) w := enters_of Try.func23 (by kernel_rfl) rfl
  have HC := Lib.hid (clone_rec v h.length _ w hv.1 (encRx_one h) (by omega))
  have HD := Lib.hid (fun base v l w h1 h2 h3 => del_rec (fun x => x.en != 0) 23 #[] e1 base v l w h1 h2 (fun W x => real1_any x W) h3)
  obtain ⟨r, hr⟩ : ∃ r, r = realL h := ⟨_, rfl⟩
  rw [← hr]
  unfold realL at hr
  have HR := Lib.hid hr
  clear hv e1 hr
  go_enter Try.func14, Try.ntmps14
  go_wp2_with fail
  refine HC.out.mono ?_
  rintro e w1 ⟨v1, rfl, hO1, hB1⟩
  have HO1 := Lib.hid hO1
  have HB1 := Lib.hid hB1
  clear hO1 hB1
  go_wp2_with fail
  refine (HD.out w.heap.size v1 h _ HB1.out.size hl HO1.out).mono ?_
  rintro e w2 ⟨v2, rfl, hO2, hB2⟩
  have hO2 : w2.ownsRow w.heap.size 27 10 v2 (h.filter (fun x => x.en == 0)).length ((h.filter (fun x => x.en == 0)).flatMap encRx) := by
    have e : (fun x : Rx => !(x.en != 0)) = (fun x => x.en == 0) := by funext x; exact Bool.not_not _
    rw [← e]; exact hO2
  have HB2 := Lib.hid (HB1.out.trans hB2)
  have hfl := List.length_filter_le (fun x : Rx => x.en == 0) h
  generalize h.filter (fun x => x.en == 0) = l at *
  have hS := Sl.of_own hO2
  obtain ⟨A, c, rfl, hlc, hcm⟩ := hS.form
  have HP := Lib.hid (fun h0 : 0 < l.length => Sl.pos encRx encRx_len hS h0)
  obtain ⟨n, hn⟩ : ∃ n, n = l.length := ⟨_, rfl⟩
  have HN := Lib.hid hn
  have hnl : n ≤ 100000 := by omega
  rw [← hn] at HR ⊢
  have HT := Lib.hid (show (∀ i < n, ∀ k < n, fineQ l i k) → r = true from fun h => by rw [HR.out]; exact decide_eq_true h)
  have HF := Lib.hid (show ∀ i k, i < n → k < n → ¬ fineQ l i k → r = false from fun i k hi hk h => by rw [HR.out]; exact decide_eq_false (fun h2 => h (h2 i hi k hk)))
  clear hO2 hB2 hS hfl hlc hcm hn HR
  go_wp2_with fail
  go_loopg [13] n (fun gg s13 wr => ∃ i : Nat, s13 = .int .i64 i ∧ i ≤ n ∧ n - i ≤ gg ∧ Hid ((∀ i' < i, ∀ k < n, fineQ l i' k) ∧ Below w.heap.size w wr ∧ Below w2.heap.size w2 wr))
  case atStart => exact ⟨0, by go_num, by omega, by omega, fun _ h => absurd h (Nat.not_lt_zero _), HB2.out, Below.refl _ _⟩
  case round =>
    obtain ⟨i, rfl, hin, hg, HI⟩ := hrel
    by_cases hlt : i < n
    · have hltz : (i : Int) < (n : Int) := by omega
      have hi0 : (0 : Int) ≤ (i : Int) := by omega
      have hil : i < l.length := by have := HN.out; omega
      obtain ⟨B, hB⟩ : ∃ B, B = wr.heap.size := ⟨_, rfl⟩
      obtain ⟨b, o, hA, hbl, hel⟩ := HP.out (by omega)
      subst hA
      have HEL := Lib.hid hel
      have HA0 := Lib.hid (List.getElem?_eq_getElem hil)
      have hei := hel wr HI.out.2.2 i hil
      generalize l[i] = a at *
      have c0 := hei 0 _ rfl
      have c1 := hei 1 _ rfl
      have c2 := hei 2 _ rfl
      have c3 := hei 3 _ rfl
      have c4 := hei 4 _ rfl
      have c5 := hei 5 _ rfl
      have c6 := hei 6 _ rfl
      have c7 := hei 7 _ rfl
      have c8 := hei 8 _ rfl
      have c9 := hei 9 _ rfl
      simp only [Nat.add_zero] at c0
      clear hel hei
      go_wp2_with fail
      rw [← hB]
      have HBE := Lib.hid hB
      clear hB
      go_loopg [20] n (fun gg s20 wr => ∃ k : Nat, s20 = .int .i64 k ∧ k ≤ n ∧ n - k ≤ gg ∧ Hid ((∀ k' < k, fineQ l i k') ∧ Below w.heap.size w wr ∧ Below w2.heap.size w2 wr ∧ Blk wr B 27 (encRx a).toArray))
      case atStart => exact ⟨0, by go_num, by omega, by omega, (show Hid _ from ⟨fun _ h => absurd h (Nat.not_lt_zero _), HI.out.2.1.alloc HI.out.2.1.size _, HI.out.2.2.alloc HI.out.2.2.size _, Blk.new_ _ _ _ _ HBE.out.symm⟩)⟩
      case round =>
        obtain ⟨k, rfl, hkn, hg2, HJ⟩ := hrel
        clear c0 c1 c2 c3 c4 c5 c6 c7 c8 c9
        by_cases hk : k < n
        · have hkz : (k : Int) < (n : Int) := by omega
          have hk0 : (0 : Int) ≤ (k : Int) := by omega
          have hkl : k < l.length := by have := HN.out; omega
          have HY0 := Lib.hid (List.getElem?_eq_getElem hkl)
          have hel := HEL.out wr HJ.out.2.2.1 k hkl
          generalize l[k] = y at *
          have d0 := hel 0 _ rfl
          have d1 := hel 1 _ rfl
          have d2 := hel 2 _ rfl
          have d3 := hel 3 _ rfl
          have d4 := hel 4 _ rfl
          have d5 := hel 5 _ rfl
          have d6 := hel 6 _ rfl
          have d7 := hel 7 _ rfl
          have d8 := hel 8 _ rfl
          have d9 := hel 9 _ rfl
          simp only [Nat.add_zero] at d0
          clear hel
          obtain ⟨D, hD⟩ : ∃ D, D = wr.heap.size := ⟨_, rfl⟩
          obtain ⟨wq, hwq⟩ : ∃ wq, wq = wr.alloc (.cells (encRx y).toArray 27) := ⟨_, rfl⟩
          have HBA := Lib.hid (show Blk wq B 27 (encRx a).toArray from hwq ▸ HJ.out.2.2.2.alloc _)
          have HBD := Lib.hid (show Blk wq D 27 (encRx y).toArray from hwq ▸ Blk.new_ _ _ _ _ hD.symm)
          have HWZ := Lib.hid (show Below wr.heap.size wr wq from hwq ▸ (Below.refl _ _).alloc (Nat.le_refl _) _)
          have HNX := Lib.hid (fun W' (h : Below wq.heap.size wq W') => (show Below w.heap.size w W' ∧ Below w2.heap.size w2 W' ∧ Blk W' B 27 (encRx a).toArray from
            have hz := HWZ.out.trans (h.mono HWZ.out.size)
            ⟨HJ.out.2.1.trans (hz.mono HJ.out.2.1.size), HJ.out.2.2.1.trans (hz.mono HJ.out.2.2.1.size), HJ.out.2.2.2.keep hz⟩))
          have HST := Lib.hid (show badQ i k a y = false → ∀ k' < k + 1, fineQ l i k' from fun h k' hk' => by
            rcases Nat.lt_or_ge k' k with h1 | h1
            · exact HJ.out.1 k' h1
            · obtain rfl : k' = k := by omega
              intro a' ha' b' hb'
              rw [HA0.out] at ha'; rw [HY0.out] at hb'
              cases ha'; cases hb'; exact h)
          simp only [encRx] at hwq
          go_wp2_with fail
          rw [← hwq, ← hD]
          clear hwq hD d0 d1 d2 d3 d4 d5 d6 d7 d8 d9
          by_cases hik : i = k
          · subst hik
            have HBAD := Lib.hid (show badQ i i a y = false from by unfold badQ; simp)
            refine wp_region_held_drew (S := fun w' => w'.cell? ⟨B, 9, none⟩ = some (.int .i64 a.to_) ∧ w'.cell? ⟨D, 8, none⟩ = some (.int .i64 y.fr) ∧ Blk w' B 27 (encRx a).toArray ∧ Blk w' D 27 (encRx y).toArray) (by kernel_rfl) ?_ (fun hHeldbr => ?_)
            · exact rs_of HBA.out.drew HBD.out.drew
            refine tkW 0 { dst := some 25, op := Op.move (Operand.tmp 4), type := 3, pos := "serial.go:77", after := _, guard := none } (v := ?vbr0) rfl (Or.inl ⟨by rfl, ?hybr0⟩) ?restbr0
            case hybr0 => (intro w hSw; (try dsimp only at hSw); go_simp <;> with_reducible rfl)
            try simp only [putW, setZ, setS]
            refine tkW 1 { dst := some 26, op := Op.move (Operand.tmp 6), type := 3, pos := "serial.go:77", after := _, guard := none } (v := ?vbr1) rfl (Or.inl ⟨by rfl, ?hybr1⟩) ?restbr1
            case hybr1 => (intro w hSw; (try dsimp only at hSw); go_simp <;> with_reducible rfl)
            try simp only [putW, setZ, setS]
            refine tkW 2 { dst := some 27, op := Op.binOp BinOp.neq 3 (Operand.tmp 25) (Operand.tmp 26) 3, type := 4, pos := "serial.go:77", after := _, guard := none } (v := .bool false) rfl (Or.inl ⟨by rfl, ?hybr2⟩) ?restbr2
            case hybr2 => (intro w hSw; (try dsimp only at hSw); go_simp <;> first | done | with_reducible rfl | omega | (simp; done) | (simp; omega) | (simp [*]; done) | (simp [*]; omega) | exact decide_eq_false (by omega) | exact decide_eq_true (by omega))
            try simp only [putW, setZ, setS]
            refine tkW 3 { dst := some 28, op := Op.move (Operand.tmp 27), type := 4, pos := "serial.go:77", after := _, guard := none } (v := ?vbr3) rfl (Or.inl ⟨by rfl, ?hybr3⟩) ?restbr3
            case hybr3 => (intro w hSw; (try dsimp only at hSw); go_simp <;> with_reducible rfl)
            try simp only [putW, setZ, setS]
            refine tkW 4 { dst := some 29, op := Op.fieldAddr 27 (Operand.tmp 5) 9, type := 0, pos := "serial.go:77", after := _, guard := some (3, true) } rfl (Or.inr ⟨by rfl, rfl⟩) ?_
            try simp only [putW, setZ, setS]
            refine tkW 5 { dst := some 30, op := Op.load 3 (Operand.tmp 29), type := 3, pos := "serial.go:77", after := _, guard := some (3, true) } rfl (Or.inr ⟨by rfl, rfl⟩) ?_
            try simp only [putW, setZ, setS]
            refine tkW 6 { dst := some 31, op := Op.fieldAddr 27 (Operand.tmp 7) 8, type := 0, pos := "serial.go:77", after := _, guard := some (3, true) } rfl (Or.inr ⟨by rfl, rfl⟩) ?_
            try simp only [putW, setZ, setS]
            refine tkW 7 { dst := some 32, op := Op.load 3 (Operand.tmp 31), type := 3, pos := "serial.go:77", after := _, guard := some (3, true) } rfl (Or.inr ⟨by rfl, rfl⟩) ?_
            try simp only [putW, setZ, setS]
            refine tkW 8 { dst := some 33, op := Op.binOp BinOp.lss 3 (Operand.tmp 30) (Operand.tmp 32) 3, type := 4, pos := "serial.go:77", after := _, guard := some (3, true) } rfl (Or.inr ⟨by rfl, rfl⟩) ?_
            try simp only [putW, setZ, setS]
            refine tkW 9 { dst := some 34, op := Op.pick (Operand.tmp 28) (Operand.tmp 33) (Operand.const (Value.bool false)), type := 4, pos := "serial.go:77", after := _, guard := none } (v := ?vbr9) rfl (Or.inl ⟨by rfl, ?hybr9⟩) ?restbr9
            case hybr9 => (intro w hSw; (try dsimp only at hSw); go_simp <;> with_reducible rfl)
            try simp only [putW, setZ, setS]
            refine tkW 10 { dst := some 35, op := Op.move (Operand.tmp 34), type := 4, pos := "serial.go:77", after := _, guard := none } (v := ?vbr10) rfl (Or.inl ⟨by rfl, ?hybr10⟩) ?restbr10
            case hybr10 => (intro w hSw; (try dsimp only at hSw); go_simp <;> with_reducible rfl)
            try simp only [putW, setZ, setS]
            refine tkW 11 { dst := some 36, op := Op.load 27 (Operand.tmp 5), type := 27, pos := "serial.go:77", after := _, guard := some (10, true) } rfl (Or.inr ⟨by rfl, rfl⟩) ?_
            try simp only [putW, setZ, setS]
            refine tkW 12 { dst := some 37, op := Op.call { callee := Callee.value (Operand.func 24), args := #[Operand.tmp 36], argTypes := #[27] }, type := 3, pos := "serial.go:77", after := _, guard := some (10, true) } rfl (Or.inr ⟨by rfl, rfl⟩) ?_
            try simp only [putW, setZ, setS]
            refine tkW 13 { dst := some 38, op := Op.load 27 (Operand.tmp 7), type := 27, pos := "serial.go:77", after := _, guard := some (10, true) } rfl (Or.inr ⟨by rfl, rfl⟩) ?_
            try simp only [putW, setZ, setS]
            refine tkW 14 { dst := some 39, op := Op.call { callee := Callee.value (Operand.func 24), args := #[Operand.tmp 38], argTypes := #[27] }, type := 3, pos := "serial.go:77", after := _, guard := some (10, true) } rfl (Or.inr ⟨by rfl, rfl⟩) ?_
            try simp only [putW, setZ, setS]
            refine tkW 15 { dst := some 40, op := Op.binOp BinOp.gtr 3 (Operand.tmp 37) (Operand.tmp 39) 3, type := 4, pos := "serial.go:77", after := _, guard := some (10, true) } rfl (Or.inr ⟨by rfl, rfl⟩) ?_
            try simp only [putW, setZ, setS]
            refine tkW 16 { dst := some 41, op := Op.move (Operand.tmp 40), type := 4, pos := "serial.go:77", after := _, guard := some (10, true) } rfl (Or.inr ⟨by rfl, rfl⟩) ?_
            try simp only [putW, setZ, setS]
            refine tkW 17 { dst := some 42, op := Op.load 27 (Operand.tmp 7), type := 27, pos := "serial.go:77", after := _, guard := some (16, false) } rfl (Or.inr ⟨by rfl, rfl⟩) ?_
            try simp only [putW, setZ, setS]
            refine tkW 18 { dst := some 43, op := Op.call { callee := Callee.value (Operand.func 25), args := #[Operand.tmp 42], argTypes := #[27] }, type := 4, pos := "serial.go:77", after := _, guard := some (16, false) } rfl (Or.inr ⟨by rfl, rfl⟩) ?_
            try simp only [putW, setZ, setS]
            refine tkW 19 { dst := some 44, op := Op.move (Operand.tmp 43), type := 4, pos := "serial.go:77", after := _, guard := some (16, false) } rfl (Or.inr ⟨by rfl, rfl⟩) ?_
            try simp only [putW, setZ, setS]
            refine tkW 20 { dst := some 45, op := Op.load 27 (Operand.tmp 5), type := 27, pos := "serial.go:77", after := _, guard := some (19, true) } rfl (Or.inr ⟨by rfl, rfl⟩) ?_
            try simp only [putW, setZ, setS]
            refine tkW 21 { dst := some 46, op := Op.call { callee := Callee.value (Operand.func 24), args := #[Operand.tmp 45], argTypes := #[27] }, type := 3, pos := "serial.go:77", after := _, guard := some (19, true) } rfl (Or.inr ⟨by rfl, rfl⟩) ?_
            try simp only [putW, setZ, setS]
            refine tkW 22 { dst := some 47, op := Op.load 27 (Operand.tmp 7), type := 27, pos := "serial.go:77", after := _, guard := some (19, true) } rfl (Or.inr ⟨by rfl, rfl⟩) ?_
            try simp only [putW, setZ, setS]
            refine tkW 23 { dst := some 48, op := Op.call { callee := Callee.value (Operand.func 24), args := #[Operand.tmp 47], argTypes := #[27] }, type := 3, pos := "serial.go:77", after := _, guard := some (19, true) } rfl (Or.inr ⟨by rfl, rfl⟩) ?_
            try simp only [putW, setZ, setS]
            refine tkW 24 { dst := some 49, op := Op.binOp BinOp.eql 3 (Operand.tmp 46) (Operand.tmp 48) 3, type := 4, pos := "serial.go:77", after := _, guard := some (19, true) } rfl (Or.inr ⟨by rfl, rfl⟩) ?_
            try simp only [putW, setZ, setS]
            refine tkW 25 { dst := some 50, op := Op.pick (Operand.tmp 44) (Operand.tmp 49) (Operand.const (Value.bool false)), type := 4, pos := "serial.go:77", after := _, guard := some (16, false) } rfl (Or.inr ⟨by rfl, rfl⟩) ?_
            try simp only [putW, setZ, setS]
            refine tkW 26 { dst := some 51, op := Op.pick (Operand.tmp 41) (Operand.const (Value.bool true)) (Operand.tmp 50), type := 4, pos := "serial.go:77", after := _, guard := some (10, true) } rfl (Or.inr ⟨by rfl, rfl⟩) ?_
            try simp only [putW, setZ, setS]
            refine tkW 27 { dst := some 52, op := Op.pick (Operand.tmp 35) (Operand.tmp 51) (Operand.const (Value.bool false)), type := 4, pos := "serial.go:77", after := _, guard := none } (v := ?vbr27) rfl (Or.inl ⟨by rfl, ?hybr27⟩) ?restbr27
            case hybr27 => (intro w hSw; (try dsimp only at hSw); go_simp <;> with_reducible rfl)
            try simp only [putW, setZ, setS]
            refine wpAnyH_done (by kernel_rfl) ?_ _
            go_wp2
            go_roundg (n - (i + 1))
            case measure => omega
            case rel => exact ⟨i + 1, by go_num, by omega, by omega, (show Hid _ from ⟨HST.out HBAD.out, HNX.out _ (Below.refl _ _).drew⟩)⟩
          · have hikz : ¬ (i : Int) = (k : Int) := by omega
            by_cases hto : a.to_ < y.fr
            · by_cases hgt : lastX y < lastX a
              have HBAD := Lib.hid (show badQ i k a y = true from by unfold badQ; simp [hik, hto, hgt])
              refine wp_region_held_drew (S := fun w' => w'.cell? ⟨B, 9, none⟩ = some (.int .i64 a.to_) ∧ w'.cell? ⟨D, 8, none⟩ = some (.int .i64 y.fr) ∧ Blk w' B 27 (encRx a).toArray ∧ Blk w' D 27 (encRx y).toArray) (by kernel_rfl) ?_ (fun hHeldcr => ?_)
              · exact rs_of HBA.out.drew HBD.out.drew
              refine tkW 0 { dst := some 25, op := Op.move (Operand.tmp 4), type := 3, pos := "serial.go:77", after := _, guard := none } (v := ?vcr0) rfl (Or.inl ⟨by rfl, ?hycr0⟩) ?restcr0
              case hycr0 => (intro w hSw; (try dsimp only at hSw); go_simp <;> with_reducible rfl)
              try simp only [putW, setZ, setS]
              refine tkW 1 { dst := some 26, op := Op.move (Operand.tmp 6), type := 3, pos := "serial.go:77", after := _, guard := none } (v := ?vcr1) rfl (Or.inl ⟨by rfl, ?hycr1⟩) ?restcr1
              case hycr1 => (intro w hSw; (try dsimp only at hSw); go_simp <;> with_reducible rfl)
              try simp only [putW, setZ, setS]
              refine tkW 2 { dst := some 27, op := Op.binOp BinOp.neq 3 (Operand.tmp 25) (Operand.tmp 26) 3, type := 4, pos := "serial.go:77", after := _, guard := none } (v := .bool true) rfl (Or.inl ⟨by rfl, ?hycr2⟩) ?restcr2
              case hycr2 => (intro w hSw; (try dsimp only at hSw); go_simp <;> first | done | with_reducible rfl | omega | (simp; done) | (simp; omega) | (simp [*]; done) | (simp [*]; omega) | exact decide_eq_false (by omega) | exact decide_eq_true (by omega))
              try simp only [putW, setZ, setS]
              refine tkW 3 { dst := some 28, op := Op.move (Operand.tmp 27), type := 4, pos := "serial.go:77", after := _, guard := none } (v := ?vcr3) rfl (Or.inl ⟨by rfl, ?hycr3⟩) ?restcr3
              case hycr3 => (intro w hSw; (try dsimp only at hSw); go_simp <;> with_reducible rfl)
              try simp only [putW, setZ, setS]
              refine tkW 4 { dst := some 29, op := Op.fieldAddr 27 (Operand.tmp 5) 9, type := 0, pos := "serial.go:77", after := _, guard := some (3, true) } (v := ?vcr4) rfl (Or.inl ⟨by rfl, ?hycr4⟩) ?restcr4
              case hycr4 => (intro w hSw; (try dsimp only at hSw); go_simp <;> with_reducible rfl)
              try simp only [putW, setZ, setS]
              refine tkW 5 { dst := some 30, op := Op.load 3 (Operand.tmp 29), type := 3, pos := "serial.go:77", after := _, guard := some (3, true) } (v := ?vcr5) rfl (Or.inl ⟨by rfl, ?hycr5⟩) ?restcr5
              case hycr5 => (intro w hSw; (try dsimp only at hSw); go_simp <;> with_reducible rfl)
              try simp only [putW, setZ, setS]
              refine tkW 6 { dst := some 31, op := Op.fieldAddr 27 (Operand.tmp 7) 8, type := 0, pos := "serial.go:77", after := _, guard := some (3, true) } (v := ?vcr6) rfl (Or.inl ⟨by rfl, ?hycr6⟩) ?restcr6
              case hycr6 => (intro w hSw; (try dsimp only at hSw); go_simp <;> with_reducible rfl)
              try simp only [putW, setZ, setS]
              refine tkW 7 { dst := some 32, op := Op.load 3 (Operand.tmp 31), type := 3, pos := "serial.go:77", after := _, guard := some (3, true) } (v := ?vcr7) rfl (Or.inl ⟨by rfl, ?hycr7⟩) ?restcr7
              case hycr7 => (intro w hSw; (try dsimp only at hSw); go_simp <;> with_reducible rfl)
              try simp only [putW, setZ, setS]
              refine tkW 8 { dst := some 33, op := Op.binOp BinOp.lss 3 (Operand.tmp 30) (Operand.tmp 32) 3, type := 4, pos := "serial.go:77", after := _, guard := some (3, true) } (v := .bool true) rfl (Or.inl ⟨by rfl, ?hycr8⟩) ?restcr8
              case hycr8 => (intro w hSw; (try dsimp only at hSw); go_simp <;> first | done | with_reducible rfl | omega | (simp; done) | (simp; omega) | (simp [*]; done) | (simp [*]; omega) | exact decide_eq_false (by omega) | exact decide_eq_true (by omega))
              try simp only [putW, setZ, setS]
              refine tkW 9 { dst := some 34, op := Op.pick (Operand.tmp 28) (Operand.tmp 33) (Operand.const (Value.bool false)), type := 4, pos := "serial.go:77", after := _, guard := none } (v := ?vcr9) rfl (Or.inl ⟨by rfl, ?hycr9⟩) ?restcr9
              case hycr9 => (intro w hSw; (try dsimp only at hSw); go_simp <;> with_reducible rfl)
              try simp only [putW, setZ, setS]
              refine tkW 10 { dst := some 35, op := Op.move (Operand.tmp 34), type := 4, pos := "serial.go:77", after := _, guard := none } (v := ?vcr10) rfl (Or.inl ⟨by rfl, ?hycr10⟩) ?restcr10
              case hycr10 => (intro w hSw; (try dsimp only at hSw); go_simp <;> with_reducible rfl)
              try simp only [putW, setZ, setS]
              refine tkW 11 { dst := some 36, op := Op.load 27 (Operand.tmp 5), type := 27, pos := "serial.go:77", after := _, guard := some (10, true) } (v := .agg (encRx a).toArray) rfl (Or.inl ⟨by rfl, ?hycr11⟩) ?restcr11
              case hycr11 => (intro w hSw; (try dsimp only at hSw); exact exec_load_mid rfl rfl (range_blk hSw.2.2.1) Try.underlying27 rfl rec_size)
              try simp only [putW, setZ, setS]
              refine tkW 13 { dst := some 38, op := Op.load 27 (Operand.tmp 7), type := 27, pos := "serial.go:77", after := _, guard := some (10, true) } (v := .agg (encRx y).toArray) rfl (Or.inl ⟨by rfl, ?hycr13⟩) ?restcr13
              case hycr13 => (intro w hSw; (try dsimp only at hSw); exact exec_load_mid rfl rfl (range_blk hSw.2.2.2) Try.underlying27 rfl rec_size)
              try simp only [putW, setZ, setS]
              refine wpAnyH_ready (rs := [12]) (by kernel_rfl) (by simp) ?_
              refine AllReadyH.cons (o := { dst := some 37, op := Op.call { callee := Callee.value (Operand.func 24), args := #[Operand.tmp 36], argTypes := #[27] }, type := 3, pos := "serial.go:77", after := _, guard := some (10, true) }) rfl (fun K hK => ?_) AllReadyH.nil
              go_simp
              refine (last_any a _).mono ?_
              rintro e v3 ⟨rfl, hv3⟩
              have hX3 : Below wq.heap.size wq v3 := Below.trans (Below.refl _ _).drew (hv3.mono (by first | exact Nat.le_refl _ | exact (Below.size (Below.refl _ _).drew)))
              try go_wp2_with fail
              refine hK.out _ _ ?_ (fun hHeldcr12 => ?_)
              · exact rs_of (HBA.out.keep hX3) (HBD.out.keep hX3)
              clear hK K hHeldcr
              try simp only [Act.put, List.setIfInBounds_toArray, List.set_cons_zero, List.set_cons_succ]
              refine wpAnyH_ready (rs := [14]) (by kernel_rfl) (by simp) ?_
              refine AllReadyH.cons (o := { dst := some 39, op := Op.call { callee := Callee.value (Operand.func 24), args := #[Operand.tmp 38], argTypes := #[27] }, type := 3, pos := "serial.go:77", after := _, guard := some (10, true) }) rfl (fun K hK => ?_) AllReadyH.nil
              go_simp
              refine (last_any y _).mono ?_
              rintro e v4 ⟨rfl, hv4⟩
              have hX4 : Below wq.heap.size wq v4 := Below.trans hX3 (hv4.mono (by first | exact Nat.le_refl _ | exact (Below.size hX3)))
              try go_wp2_with fail
              refine hK.out _ _ ?_ (fun hHeldcr14 => ?_)
              · exact rs_of (HBA.out.keep hX4) (HBD.out.keep hX4)
              clear hK K hHeldcr12
              try simp only [Act.put, List.setIfInBounds_toArray, List.set_cons_zero, List.set_cons_succ]
              refine tkW 15 { dst := some 40, op := Op.binOp BinOp.gtr 3 (Operand.tmp 37) (Operand.tmp 39) 3, type := 4, pos := "serial.go:77", after := _, guard := some (10, true) } (v := .bool true) rfl (Or.inl ⟨by rfl, ?hycr15⟩) ?restcr15
              case hycr15 => (intro w hSw; (try dsimp only at hSw); go_simp <;> first | done | with_reducible rfl | omega | (simp; done) | (simp; omega) | (simp [*]; done) | (simp [*]; omega) | exact decide_eq_false (by omega) | exact decide_eq_true (by omega))
              try simp only [putW, setZ, setS]
              refine tkW 16 { dst := some 41, op := Op.move (Operand.tmp 40), type := 4, pos := "serial.go:77", after := _, guard := some (10, true) } (v := ?vcr16) rfl (Or.inl ⟨by rfl, ?hycr16⟩) ?restcr16
              case hycr16 => (intro w hSw; (try dsimp only at hSw); go_simp <;> with_reducible rfl)
              try simp only [putW, setZ, setS]
              refine tkW 17 { dst := some 42, op := Op.load 27 (Operand.tmp 7), type := 27, pos := "serial.go:77", after := _, guard := some (16, false) } rfl (Or.inr ⟨by rfl, rfl⟩) ?_
              try simp only [putW, setZ, setS]
              refine tkW 18 { dst := some 43, op := Op.call { callee := Callee.value (Operand.func 25), args := #[Operand.tmp 42], argTypes := #[27] }, type := 4, pos := "serial.go:77", after := _, guard := some (16, false) } rfl (Or.inr ⟨by rfl, rfl⟩) ?_
              try simp only [putW, setZ, setS]
              refine tkW 19 { dst := some 44, op := Op.move (Operand.tmp 43), type := 4, pos := "serial.go:77", after := _, guard := some (16, false) } rfl (Or.inr ⟨by rfl, rfl⟩) ?_
              try simp only [putW, setZ, setS]
              refine tkW 20 { dst := some 45, op := Op.load 27 (Operand.tmp 5), type := 27, pos := "serial.go:77", after := _, guard := some (19, true) } rfl (Or.inr ⟨by rfl, rfl⟩) ?_
              try simp only [putW, setZ, setS]
              refine tkW 21 { dst := some 46, op := Op.call { callee := Callee.value (Operand.func 24), args := #[Operand.tmp 45], argTypes := #[27] }, type := 3, pos := "serial.go:77", after := _, guard := some (19, true) } rfl (Or.inr ⟨by rfl, rfl⟩) ?_
              try simp only [putW, setZ, setS]
              refine tkW 22 { dst := some 47, op := Op.load 27 (Operand.tmp 7), type := 27, pos := "serial.go:77", after := _, guard := some (19, true) } rfl (Or.inr ⟨by rfl, rfl⟩) ?_
              try simp only [putW, setZ, setS]
              refine tkW 23 { dst := some 48, op := Op.call { callee := Callee.value (Operand.func 24), args := #[Operand.tmp 47], argTypes := #[27] }, type := 3, pos := "serial.go:77", after := _, guard := some (19, true) } rfl (Or.inr ⟨by rfl, rfl⟩) ?_
              try simp only [putW, setZ, setS]
              refine tkW 24 { dst := some 49, op := Op.binOp BinOp.eql 3 (Operand.tmp 46) (Operand.tmp 48) 3, type := 4, pos := "serial.go:77", after := _, guard := some (19, true) } rfl (Or.inr ⟨by rfl, rfl⟩) ?_
              try simp only [putW, setZ, setS]
              refine tkW 25 { dst := some 50, op := Op.pick (Operand.tmp 44) (Operand.tmp 49) (Operand.const (Value.bool false)), type := 4, pos := "serial.go:77", after := _, guard := some (16, false) } rfl (Or.inr ⟨by rfl, rfl⟩) ?_
              try simp only [putW, setZ, setS]
              refine tkW 26 { dst := some 51, op := Op.pick (Operand.tmp 41) (Operand.const (Value.bool true)) (Operand.tmp 50), type := 4, pos := "serial.go:77", after := _, guard := some (10, true) } (v := ?vcr26) rfl (Or.inl ⟨by rfl, ?hycr26⟩) ?restcr26
              case hycr26 => (intro w hSw; (try dsimp only at hSw); go_simp <;> with_reducible rfl)
              try simp only [putW, setZ, setS]
              refine tkW 27 { dst := some 52, op := Op.pick (Operand.tmp 35) (Operand.tmp 51) (Operand.const (Value.bool false)), type := 4, pos := "serial.go:77", after := _, guard := none } (v := ?vcr27) rfl (Or.inl ⟨by rfl, ?hycr27⟩) ?restcr27
              case hycr27 => (intro w hSw; (try dsimp only at hSw); go_simp <;> with_reducible rfl)
              try simp only [putW, setZ, setS]
              refine wpAnyH_done (by kernel_rfl) ?_ _
              go_wp2
              go_ret
              refine ⟨?_, HNX.out _ hX4 |>.1⟩
              exact congrArg (fun b => Ending.returned (.bool b)) (HF.out i k hlt hk (fun h => by have h2 := h a HA0.out y HY0.out; rw [HBAD.out] at h2; cases h2)).symm
              · cases hwy : writesX y with
                | false =>
                  have HBAD := Lib.hid (show badQ i k a y = false from by unfold badQ; simp [hgt, hwy])
                  have hwr := fun W => hwy ▸ writes_any y W
                  refine wp_region_held_drew (S := fun w' => w'.cell? ⟨B, 9, none⟩ = some (.int .i64 a.to_) ∧ w'.cell? ⟨D, 8, none⟩ = some (.int .i64 y.fr) ∧ Blk w' B 27 (encRx a).toArray ∧ Blk w' D 27 (encRx y).toArray) (by kernel_rfl) ?_ (fun hHelddr => ?_)
                  · exact rs_of HBA.out.drew HBD.out.drew
                  refine tkW 0 { dst := some 25, op := Op.move (Operand.tmp 4), type := 3, pos := "serial.go:77", after := _, guard := none } (v := ?vdr0) rfl (Or.inl ⟨by rfl, ?hydr0⟩) ?restdr0
                  case hydr0 => (intro w hSw; (try dsimp only at hSw); go_simp <;> with_reducible rfl)
                  try simp only [putW, setZ, setS]
                  refine tkW 1 { dst := some 26, op := Op.move (Operand.tmp 6), type := 3, pos := "serial.go:77", after := _, guard := none } (v := ?vdr1) rfl (Or.inl ⟨by rfl, ?hydr1⟩) ?restdr1
                  case hydr1 => (intro w hSw; (try dsimp only at hSw); go_simp <;> with_reducible rfl)
                  try simp only [putW, setZ, setS]
                  refine tkW 2 { dst := some 27, op := Op.binOp BinOp.neq 3 (Operand.tmp 25) (Operand.tmp 26) 3, type := 4, pos := "serial.go:77", after := _, guard := none } (v := .bool true) rfl (Or.inl ⟨by rfl, ?hydr2⟩) ?restdr2
                  case hydr2 => (intro w hSw; (try dsimp only at hSw); go_simp <;> first | done | with_reducible rfl | omega | (simp; done) | (simp; omega) | (simp [*]; done) | (simp [*]; omega) | exact decide_eq_false (by omega) | exact decide_eq_true (by omega))
                  try simp only [putW, setZ, setS]
                  refine tkW 3 { dst := some 28, op := Op.move (Operand.tmp 27), type := 4, pos := "serial.go:77", after := _, guard := none } (v := ?vdr3) rfl (Or.inl ⟨by rfl, ?hydr3⟩) ?restdr3
                  case hydr3 => (intro w hSw; (try dsimp only at hSw); go_simp <;> with_reducible rfl)
                  try simp only [putW, setZ, setS]
                  refine tkW 4 { dst := some 29, op := Op.fieldAddr 27 (Operand.tmp 5) 9, type := 0, pos := "serial.go:77", after := _, guard := some (3, true) } (v := ?vdr4) rfl (Or.inl ⟨by rfl, ?hydr4⟩) ?restdr4
                  case hydr4 => (intro w hSw; (try dsimp only at hSw); go_simp <;> with_reducible rfl)
                  try simp only [putW, setZ, setS]
                  refine tkW 5 { dst := some 30, op := Op.load 3 (Operand.tmp 29), type := 3, pos := "serial.go:77", after := _, guard := some (3, true) } (v := ?vdr5) rfl (Or.inl ⟨by rfl, ?hydr5⟩) ?restdr5
                  case hydr5 => (intro w hSw; (try dsimp only at hSw); go_simp <;> with_reducible rfl)
                  try simp only [putW, setZ, setS]
                  refine tkW 6 { dst := some 31, op := Op.fieldAddr 27 (Operand.tmp 7) 8, type := 0, pos := "serial.go:77", after := _, guard := some (3, true) } (v := ?vdr6) rfl (Or.inl ⟨by rfl, ?hydr6⟩) ?restdr6
                  case hydr6 => (intro w hSw; (try dsimp only at hSw); go_simp <;> with_reducible rfl)
                  try simp only [putW, setZ, setS]
                  refine tkW 7 { dst := some 32, op := Op.load 3 (Operand.tmp 31), type := 3, pos := "serial.go:77", after := _, guard := some (3, true) } (v := ?vdr7) rfl (Or.inl ⟨by rfl, ?hydr7⟩) ?restdr7
                  case hydr7 => (intro w hSw; (try dsimp only at hSw); go_simp <;> with_reducible rfl)
                  try simp only [putW, setZ, setS]
                  refine tkW 8 { dst := some 33, op := Op.binOp BinOp.lss 3 (Operand.tmp 30) (Operand.tmp 32) 3, type := 4, pos := "serial.go:77", after := _, guard := some (3, true) } (v := .bool true) rfl (Or.inl ⟨by rfl, ?hydr8⟩) ?restdr8
                  case hydr8 => (intro w hSw; (try dsimp only at hSw); go_simp <;> first | done | with_reducible rfl | omega | (simp; done) | (simp; omega) | (simp [*]; done) | (simp [*]; omega) | exact decide_eq_false (by omega) | exact decide_eq_true (by omega))
                  try simp only [putW, setZ, setS]
                  refine tkW 9 { dst := some 34, op := Op.pick (Operand.tmp 28) (Operand.tmp 33) (Operand.const (Value.bool false)), type := 4, pos := "serial.go:77", after := _, guard := none } (v := ?vdr9) rfl (Or.inl ⟨by rfl, ?hydr9⟩) ?restdr9
                  case hydr9 => (intro w hSw; (try dsimp only at hSw); go_simp <;> with_reducible rfl)
                  try simp only [putW, setZ, setS]
                  refine tkW 10 { dst := some 35, op := Op.move (Operand.tmp 34), type := 4, pos := "serial.go:77", after := _, guard := none } (v := ?vdr10) rfl (Or.inl ⟨by rfl, ?hydr10⟩) ?restdr10
                  case hydr10 => (intro w hSw; (try dsimp only at hSw); go_simp <;> with_reducible rfl)
                  try simp only [putW, setZ, setS]
                  refine tkW 11 { dst := some 36, op := Op.load 27 (Operand.tmp 5), type := 27, pos := "serial.go:77", after := _, guard := some (10, true) } (v := .agg (encRx a).toArray) rfl (Or.inl ⟨by rfl, ?hydr11⟩) ?restdr11
                  case hydr11 => (intro w hSw; (try dsimp only at hSw); exact exec_load_mid rfl rfl (range_blk hSw.2.2.1) Try.underlying27 rfl rec_size)
                  try simp only [putW, setZ, setS]
                  refine tkW 13 { dst := some 38, op := Op.load 27 (Operand.tmp 7), type := 27, pos := "serial.go:77", after := _, guard := some (10, true) } (v := .agg (encRx y).toArray) rfl (Or.inl ⟨by rfl, ?hydr13⟩) ?restdr13
                  case hydr13 => (intro w hSw; (try dsimp only at hSw); exact exec_load_mid rfl rfl (range_blk hSw.2.2.2) Try.underlying27 rfl rec_size)
                  try simp only [putW, setZ, setS]
                  refine wpAnyH_ready (rs := [12]) (by kernel_rfl) (by simp) ?_
                  refine AllReadyH.cons (o := { dst := some 37, op := Op.call { callee := Callee.value (Operand.func 24), args := #[Operand.tmp 36], argTypes := #[27] }, type := 3, pos := "serial.go:77", after := _, guard := some (10, true) }) rfl (fun K hK => ?_) AllReadyH.nil
                  go_simp
                  refine (last_any a _).mono ?_
                  rintro e v3 ⟨rfl, hv3⟩
                  have hX3 : Below wq.heap.size wq v3 := Below.trans (Below.refl _ _).drew (hv3.mono (by first | exact Nat.le_refl _ | exact (Below.size (Below.refl _ _).drew)))
                  try go_wp2_with fail
                  refine hK.out _ _ ?_ (fun hHelddr12 => ?_)
                  · exact rs_of (HBA.out.keep hX3) (HBD.out.keep hX3)
                  clear hK K hHelddr
                  try simp only [Act.put, List.setIfInBounds_toArray, List.set_cons_zero, List.set_cons_succ]
                  refine wpAnyH_ready (rs := [14]) (by kernel_rfl) (by simp) ?_
                  refine AllReadyH.cons (o := { dst := some 39, op := Op.call { callee := Callee.value (Operand.func 24), args := #[Operand.tmp 38], argTypes := #[27] }, type := 3, pos := "serial.go:77", after := _, guard := some (10, true) }) rfl (fun K hK => ?_) AllReadyH.nil
                  go_simp
                  refine (last_any y _).mono ?_
                  rintro e v4 ⟨rfl, hv4⟩
                  have hX4 : Below wq.heap.size wq v4 := Below.trans hX3 (hv4.mono (by first | exact Nat.le_refl _ | exact (Below.size hX3)))
                  try go_wp2_with fail
                  refine hK.out _ _ ?_ (fun hHelddr14 => ?_)
                  · exact rs_of (HBA.out.keep hX4) (HBD.out.keep hX4)
                  clear hK K hHelddr12
                  try simp only [Act.put, List.setIfInBounds_toArray, List.set_cons_zero, List.set_cons_succ]
                  refine tkW 15 { dst := some 40, op := Op.binOp BinOp.gtr 3 (Operand.tmp 37) (Operand.tmp 39) 3, type := 4, pos := "serial.go:77", after := _, guard := some (10, true) } (v := .bool false) rfl (Or.inl ⟨by rfl, ?hydr15⟩) ?restdr15
                  case hydr15 => (intro w hSw; (try dsimp only at hSw); go_simp <;> first | done | with_reducible rfl | omega | (simp; done) | (simp; omega) | (simp [*]; done) | (simp [*]; omega) | exact decide_eq_false (by omega) | exact decide_eq_true (by omega))
                  try simp only [putW, setZ, setS]
                  refine tkW 16 { dst := some 41, op := Op.move (Operand.tmp 40), type := 4, pos := "serial.go:77", after := _, guard := some (10, true) } (v := ?vdr16) rfl (Or.inl ⟨by rfl, ?hydr16⟩) ?restdr16
                  case hydr16 => (intro w hSw; (try dsimp only at hSw); go_simp <;> with_reducible rfl)
                  try simp only [putW, setZ, setS]
                  refine tkW 17 { dst := some 42, op := Op.load 27 (Operand.tmp 7), type := 27, pos := "serial.go:77", after := _, guard := some (16, false) } (v := .agg (encRx y).toArray) rfl (Or.inl ⟨by rfl, ?hydr17⟩) ?restdr17
                  case hydr17 => (intro w hSw; (try dsimp only at hSw); exact exec_load_mid rfl rfl (range_blk hSw.2.2.2) Try.underlying27 rfl rec_size)
                  try simp only [putW, setZ, setS]
                  refine wpAnyH_ready (rs := [18]) (by kernel_rfl) (by simp) ?_
                  refine AllReadyH.cons (o := { dst := some 43, op := Op.call { callee := Callee.value (Operand.func 25), args := #[Operand.tmp 42], argTypes := #[27] }, type := 4, pos := "serial.go:77", after := _, guard := some (16, false) }) rfl (fun K hK => ?_) AllReadyH.nil
                  go_simp
                  refine (hwr _).mono ?_
                  rintro e v5 ⟨rfl, hv5⟩
                  have hX5 : Below wq.heap.size wq v5 := Below.trans hX4 (hv5.mono (by first | exact Nat.le_refl _ | exact (Below.size hX4)))
                  try go_wp2_with fail
                  refine hK.out _ _ ?_ (fun hHelddr18 => ?_)
                  · exact rs_of (HBA.out.keep hX5) (HBD.out.keep hX5)
                  clear hK K hHelddr14
                  try simp only [Act.put, List.setIfInBounds_toArray, List.set_cons_zero, List.set_cons_succ]
                  refine tkW 19 { dst := some 44, op := Op.move (Operand.tmp 43), type := 4, pos := "serial.go:77", after := _, guard := some (16, false) } (v := ?vdr19) rfl (Or.inl ⟨by rfl, ?hydr19⟩) ?restdr19
                  case hydr19 => (intro w hSw; (try dsimp only at hSw); go_simp <;> with_reducible rfl)
                  try simp only [putW, setZ, setS]
                  refine tkW 20 { dst := some 45, op := Op.load 27 (Operand.tmp 5), type := 27, pos := "serial.go:77", after := _, guard := some (19, true) } rfl (Or.inr ⟨by rfl, rfl⟩) ?_
                  try simp only [putW, setZ, setS]
                  refine tkW 21 { dst := some 46, op := Op.call { callee := Callee.value (Operand.func 24), args := #[Operand.tmp 45], argTypes := #[27] }, type := 3, pos := "serial.go:77", after := _, guard := some (19, true) } rfl (Or.inr ⟨by rfl, rfl⟩) ?_
                  try simp only [putW, setZ, setS]
                  refine tkW 22 { dst := some 47, op := Op.load 27 (Operand.tmp 7), type := 27, pos := "serial.go:77", after := _, guard := some (19, true) } rfl (Or.inr ⟨by rfl, rfl⟩) ?_
                  try simp only [putW, setZ, setS]
                  refine tkW 23 { dst := some 48, op := Op.call { callee := Callee.value (Operand.func 24), args := #[Operand.tmp 47], argTypes := #[27] }, type := 3, pos := "serial.go:77", after := _, guard := some (19, true) } rfl (Or.inr ⟨by rfl, rfl⟩) ?_
                  try simp only [putW, setZ, setS]
                  refine tkW 24 { dst := some 49, op := Op.binOp BinOp.eql 3 (Operand.tmp 46) (Operand.tmp 48) 3, type := 4, pos := "serial.go:77", after := _, guard := some (19, true) } rfl (Or.inr ⟨by rfl, rfl⟩) ?_
                  try simp only [putW, setZ, setS]
                  refine tkW 25 { dst := some 50, op := Op.pick (Operand.tmp 44) (Operand.tmp 49) (Operand.const (Value.bool false)), type := 4, pos := "serial.go:77", after := _, guard := some (16, false) } (v := ?vdr25) rfl (Or.inl ⟨by rfl, ?hydr25⟩) ?restdr25
                  case hydr25 => (intro w hSw; (try dsimp only at hSw); go_simp <;> with_reducible rfl)
                  try simp only [putW, setZ, setS]
                  refine tkW 26 { dst := some 51, op := Op.pick (Operand.tmp 41) (Operand.const (Value.bool true)) (Operand.tmp 50), type := 4, pos := "serial.go:77", after := _, guard := some (10, true) } (v := ?vdr26) rfl (Or.inl ⟨by rfl, ?hydr26⟩) ?restdr26
                  case hydr26 => (intro w hSw; (try dsimp only at hSw); go_simp <;> with_reducible rfl)
                  try simp only [putW, setZ, setS]
                  refine tkW 27 { dst := some 52, op := Op.pick (Operand.tmp 35) (Operand.tmp 51) (Operand.const (Value.bool false)), type := 4, pos := "serial.go:77", after := _, guard := none } (v := ?vdr27) rfl (Or.inl ⟨by rfl, ?hydr27⟩) ?restdr27
                  case hydr27 => (intro w hSw; (try dsimp only at hSw); go_simp <;> with_reducible rfl)
                  try simp only [putW, setZ, setS]
                  refine wpAnyH_done (by kernel_rfl) ?_ _
                  go_wp2
                  go_roundg (n - (k + 1))
                  case measure => omega
                  case rel => exact ⟨k + 1, by go_num, by omega, by omega, (show Hid _ from ⟨HST.out HBAD.out, HNX.out _ hX5⟩)⟩
                | true =>
                  have hwr := fun W => hwy ▸ writes_any y W
                  by_cases heq : lastX a = lastX y
                  · have HBAD := Lib.hid (show badQ i k a y = true from by unfold badQ; simp [hik, hto, hwy, heq])
                    refine wp_region_held_drew (S := fun w' => w'.cell? ⟨B, 9, none⟩ = some (.int .i64 a.to_) ∧ w'.cell? ⟨D, 8, none⟩ = some (.int .i64 y.fr) ∧ Blk w' B 27 (encRx a).toArray ∧ Blk w' D 27 (encRx y).toArray) (by kernel_rfl) ?_ (fun hHelder => ?_)
                    · exact rs_of HBA.out.drew HBD.out.drew
                    refine tkW 0 { dst := some 25, op := Op.move (Operand.tmp 4), type := 3, pos := "serial.go:77", after := _, guard := none } (v := ?ver0) rfl (Or.inl ⟨by rfl, ?hyer0⟩) ?rester0
                    case hyer0 => (intro w hSw; (try dsimp only at hSw); go_simp <;> with_reducible rfl)
                    try simp only [putW, setZ, setS]
                    refine tkW 1 { dst := some 26, op := Op.move (Operand.tmp 6), type := 3, pos := "serial.go:77", after := _, guard := none } (v := ?ver1) rfl (Or.inl ⟨by rfl, ?hyer1⟩) ?rester1
                    case hyer1 => (intro w hSw; (try dsimp only at hSw); go_simp <;> with_reducible rfl)
                    try simp only [putW, setZ, setS]
                    refine tkW 2 { dst := some 27, op := Op.binOp BinOp.neq 3 (Operand.tmp 25) (Operand.tmp 26) 3, type := 4, pos := "serial.go:77", after := _, guard := none } (v := .bool true) rfl (Or.inl ⟨by rfl, ?hyer2⟩) ?rester2
                    case hyer2 => (intro w hSw; (try dsimp only at hSw); go_simp <;> first | done | with_reducible rfl | omega | (simp; done) | (simp; omega) | (simp [*]; done) | (simp [*]; omega) | exact decide_eq_false (by omega) | exact decide_eq_true (by omega))
                    try simp only [putW, setZ, setS]
                    refine tkW 3 { dst := some 28, op := Op.move (Operand.tmp 27), type := 4, pos := "serial.go:77", after := _, guard := none } (v := ?ver3) rfl (Or.inl ⟨by rfl, ?hyer3⟩) ?rester3
                    case hyer3 => (intro w hSw; (try dsimp only at hSw); go_simp <;> with_reducible rfl)
                    try simp only [putW, setZ, setS]
                    refine tkW 4 { dst := some 29, op := Op.fieldAddr 27 (Operand.tmp 5) 9, type := 0, pos := "serial.go:77", after := _, guard := some (3, true) } (v := ?ver4) rfl (Or.inl ⟨by rfl, ?hyer4⟩) ?rester4
                    case hyer4 => (intro w hSw; (try dsimp only at hSw); go_simp <;> with_reducible rfl)
                    try simp only [putW, setZ, setS]
                    refine tkW 5 { dst := some 30, op := Op.load 3 (Operand.tmp 29), type := 3, pos := "serial.go:77", after := _, guard := some (3, true) } (v := ?ver5) rfl (Or.inl ⟨by rfl, ?hyer5⟩) ?rester5
                    case hyer5 => (intro w hSw; (try dsimp only at hSw); go_simp <;> with_reducible rfl)
                    try simp only [putW, setZ, setS]
                    refine tkW 6 { dst := some 31, op := Op.fieldAddr 27 (Operand.tmp 7) 8, type := 0, pos := "serial.go:77", after := _, guard := some (3, true) } (v := ?ver6) rfl (Or.inl ⟨by rfl, ?hyer6⟩) ?rester6
                    case hyer6 => (intro w hSw; (try dsimp only at hSw); go_simp <;> with_reducible rfl)
                    try simp only [putW, setZ, setS]
                    refine tkW 7 { dst := some 32, op := Op.load 3 (Operand.tmp 31), type := 3, pos := "serial.go:77", after := _, guard := some (3, true) } (v := ?ver7) rfl (Or.inl ⟨by rfl, ?hyer7⟩) ?rester7
                    case hyer7 => (intro w hSw; (try dsimp only at hSw); go_simp <;> with_reducible rfl)
                    try simp only [putW, setZ, setS]
                    refine tkW 8 { dst := some 33, op := Op.binOp BinOp.lss 3 (Operand.tmp 30) (Operand.tmp 32) 3, type := 4, pos := "serial.go:77", after := _, guard := some (3, true) } (v := .bool true) rfl (Or.inl ⟨by rfl, ?hyer8⟩) ?rester8
                    case hyer8 => (intro w hSw; (try dsimp only at hSw); go_simp <;> first | done | with_reducible rfl | omega | (simp; done) | (simp; omega) | (simp [*]; done) | (simp [*]; omega) | exact decide_eq_false (by omega) | exact decide_eq_true (by omega))
                    try simp only [putW, setZ, setS]
                    refine tkW 9 { dst := some 34, op := Op.pick (Operand.tmp 28) (Operand.tmp 33) (Operand.const (Value.bool false)), type := 4, pos := "serial.go:77", after := _, guard := none } (v := ?ver9) rfl (Or.inl ⟨by rfl, ?hyer9⟩) ?rester9
                    case hyer9 => (intro w hSw; (try dsimp only at hSw); go_simp <;> with_reducible rfl)
                    try simp only [putW, setZ, setS]
                    refine tkW 10 { dst := some 35, op := Op.move (Operand.tmp 34), type := 4, pos := "serial.go:77", after := _, guard := none } (v := ?ver10) rfl (Or.inl ⟨by rfl, ?hyer10⟩) ?rester10
                    case hyer10 => (intro w hSw; (try dsimp only at hSw); go_simp <;> with_reducible rfl)
                    try simp only [putW, setZ, setS]
                    refine tkW 11 { dst := some 36, op := Op.load 27 (Operand.tmp 5), type := 27, pos := "serial.go:77", after := _, guard := some (10, true) } (v := .agg (encRx a).toArray) rfl (Or.inl ⟨by rfl, ?hyer11⟩) ?rester11
                    case hyer11 => (intro w hSw; (try dsimp only at hSw); exact exec_load_mid rfl rfl (range_blk hSw.2.2.1) Try.underlying27 rfl rec_size)
                    try simp only [putW, setZ, setS]
                    refine tkW 13 { dst := some 38, op := Op.load 27 (Operand.tmp 7), type := 27, pos := "serial.go:77", after := _, guard := some (10, true) } (v := .agg (encRx y).toArray) rfl (Or.inl ⟨by rfl, ?hyer13⟩) ?rester13
                    case hyer13 => (intro w hSw; (try dsimp only at hSw); exact exec_load_mid rfl rfl (range_blk hSw.2.2.2) Try.underlying27 rfl rec_size)
                    try simp only [putW, setZ, setS]
                    refine wpAnyH_ready (rs := [12]) (by kernel_rfl) (by simp) ?_
                    refine AllReadyH.cons (o := { dst := some 37, op := Op.call { callee := Callee.value (Operand.func 24), args := #[Operand.tmp 36], argTypes := #[27] }, type := 3, pos := "serial.go:77", after := _, guard := some (10, true) }) rfl (fun K hK => ?_) AllReadyH.nil
                    go_simp
                    refine (last_any a _).mono ?_
                    rintro e v3 ⟨rfl, hv3⟩
                    have hX3 : Below wq.heap.size wq v3 := Below.trans (Below.refl _ _).drew (hv3.mono (by first | exact Nat.le_refl _ | exact (Below.size (Below.refl _ _).drew)))
                    try go_wp2_with fail
                    refine hK.out _ _ ?_ (fun hHelder12 => ?_)
                    · exact rs_of (HBA.out.keep hX3) (HBD.out.keep hX3)
                    clear hK K hHelder
                    try simp only [Act.put, List.setIfInBounds_toArray, List.set_cons_zero, List.set_cons_succ]
                    refine wpAnyH_ready (rs := [14]) (by kernel_rfl) (by simp) ?_
                    refine AllReadyH.cons (o := { dst := some 39, op := Op.call { callee := Callee.value (Operand.func 24), args := #[Operand.tmp 38], argTypes := #[27] }, type := 3, pos := "serial.go:77", after := _, guard := some (10, true) }) rfl (fun K hK => ?_) AllReadyH.nil
                    go_simp
                    refine (last_any y _).mono ?_
                    rintro e v4 ⟨rfl, hv4⟩
                    have hX4 : Below wq.heap.size wq v4 := Below.trans hX3 (hv4.mono (by first | exact Nat.le_refl _ | exact (Below.size hX3)))
                    try go_wp2_with fail
                    refine hK.out _ _ ?_ (fun hHelder14 => ?_)
                    · exact rs_of (HBA.out.keep hX4) (HBD.out.keep hX4)
                    clear hK K hHelder12
                    try simp only [Act.put, List.setIfInBounds_toArray, List.set_cons_zero, List.set_cons_succ]
                    refine tkW 15 { dst := some 40, op := Op.binOp BinOp.gtr 3 (Operand.tmp 37) (Operand.tmp 39) 3, type := 4, pos := "serial.go:77", after := _, guard := some (10, true) } (v := .bool false) rfl (Or.inl ⟨by rfl, ?hyer15⟩) ?rester15
                    case hyer15 => (intro w hSw; (try dsimp only at hSw); go_simp <;> first | done | with_reducible rfl | omega | (simp; done) | (simp; omega) | (simp [*]; done) | (simp [*]; omega) | exact decide_eq_false (by omega) | exact decide_eq_true (by omega))
                    try simp only [putW, setZ, setS]
                    refine tkW 16 { dst := some 41, op := Op.move (Operand.tmp 40), type := 4, pos := "serial.go:77", after := _, guard := some (10, true) } (v := ?ver16) rfl (Or.inl ⟨by rfl, ?hyer16⟩) ?rester16
                    case hyer16 => (intro w hSw; (try dsimp only at hSw); go_simp <;> with_reducible rfl)
                    try simp only [putW, setZ, setS]
                    refine tkW 17 { dst := some 42, op := Op.load 27 (Operand.tmp 7), type := 27, pos := "serial.go:77", after := _, guard := some (16, false) } (v := .agg (encRx y).toArray) rfl (Or.inl ⟨by rfl, ?hyer17⟩) ?rester17
                    case hyer17 => (intro w hSw; (try dsimp only at hSw); exact exec_load_mid rfl rfl (range_blk hSw.2.2.2) Try.underlying27 rfl rec_size)
                    try simp only [putW, setZ, setS]
                    refine wpAnyH_ready (rs := [18]) (by kernel_rfl) (by simp) ?_
                    refine AllReadyH.cons (o := { dst := some 43, op := Op.call { callee := Callee.value (Operand.func 25), args := #[Operand.tmp 42], argTypes := #[27] }, type := 4, pos := "serial.go:77", after := _, guard := some (16, false) }) rfl (fun K hK => ?_) AllReadyH.nil
                    go_simp
                    refine (hwr _).mono ?_
                    rintro e v5 ⟨rfl, hv5⟩
                    have hX5 : Below wq.heap.size wq v5 := Below.trans hX4 (hv5.mono (by first | exact Nat.le_refl _ | exact (Below.size hX4)))
                    try go_wp2_with fail
                    refine hK.out _ _ ?_ (fun hHelder18 => ?_)
                    · exact rs_of (HBA.out.keep hX5) (HBD.out.keep hX5)
                    clear hK K hHelder14
                    try simp only [Act.put, List.setIfInBounds_toArray, List.set_cons_zero, List.set_cons_succ]
                    refine tkW 19 { dst := some 44, op := Op.move (Operand.tmp 43), type := 4, pos := "serial.go:77", after := _, guard := some (16, false) } (v := ?ver19) rfl (Or.inl ⟨by rfl, ?hyer19⟩) ?rester19
                    case hyer19 => (intro w hSw; (try dsimp only at hSw); go_simp <;> with_reducible rfl)
                    try simp only [putW, setZ, setS]
                    refine tkW 20 { dst := some 45, op := Op.load 27 (Operand.tmp 5), type := 27, pos := "serial.go:77", after := _, guard := some (19, true) } (v := .agg (encRx a).toArray) rfl (Or.inl ⟨by rfl, ?hyer20⟩) ?rester20
                    case hyer20 => (intro w hSw; (try dsimp only at hSw); exact exec_load_mid rfl rfl (range_blk hSw.2.2.1) Try.underlying27 rfl rec_size)
                    try simp only [putW, setZ, setS]
                    refine tkW 22 { dst := some 47, op := Op.load 27 (Operand.tmp 7), type := 27, pos := "serial.go:77", after := _, guard := some (19, true) } (v := .agg (encRx y).toArray) rfl (Or.inl ⟨by rfl, ?hyer22⟩) ?rester22
                    case hyer22 => (intro w hSw; (try dsimp only at hSw); exact exec_load_mid rfl rfl (range_blk hSw.2.2.2) Try.underlying27 rfl rec_size)
                    try simp only [putW, setZ, setS]
                    refine wpAnyH_ready (rs := [21]) (by kernel_rfl) (by simp) ?_
                    refine AllReadyH.cons (o := { dst := some 46, op := Op.call { callee := Callee.value (Operand.func 24), args := #[Operand.tmp 45], argTypes := #[27] }, type := 3, pos := "serial.go:77", after := _, guard := some (19, true) }) rfl (fun K hK => ?_) AllReadyH.nil
                    go_simp
                    refine (last_any a _).mono ?_
                    rintro e v6 ⟨rfl, hv6⟩
                    have hX6 : Below wq.heap.size wq v6 := Below.trans hX5 (hv6.mono (by first | exact Nat.le_refl _ | exact (Below.size hX5)))
                    try go_wp2_with fail
                    refine hK.out _ _ ?_ (fun hHelder21 => ?_)
                    · exact rs_of (HBA.out.keep hX6) (HBD.out.keep hX6)
                    clear hK K hHelder18
                    try simp only [Act.put, List.setIfInBounds_toArray, List.set_cons_zero, List.set_cons_succ]
                    refine wpAnyH_ready (rs := [23]) (by kernel_rfl) (by simp) ?_
                    refine AllReadyH.cons (o := { dst := some 48, op := Op.call { callee := Callee.value (Operand.func 24), args := #[Operand.tmp 47], argTypes := #[27] }, type := 3, pos := "serial.go:77", after := _, guard := some (19, true) }) rfl (fun K hK => ?_) AllReadyH.nil
                    go_simp
                    refine (last_any y _).mono ?_
                    rintro e v7 ⟨rfl, hv7⟩
                    have hX7 : Below wq.heap.size wq v7 := Below.trans hX6 (hv7.mono (by first | exact Nat.le_refl _ | exact (Below.size hX6)))
                    try go_wp2_with fail
                    refine hK.out _ _ ?_ (fun hHelder23 => ?_)
                    · exact rs_of (HBA.out.keep hX7) (HBD.out.keep hX7)
                    clear hK K hHelder21
                    try simp only [Act.put, List.setIfInBounds_toArray, List.set_cons_zero, List.set_cons_succ]
                    refine tkW 24 { dst := some 49, op := Op.binOp BinOp.eql 3 (Operand.tmp 46) (Operand.tmp 48) 3, type := 4, pos := "serial.go:77", after := _, guard := some (19, true) } (v := .bool true) rfl (Or.inl ⟨by rfl, ?hyer24⟩) ?rester24
                    case hyer24 => (intro w hSw; (try dsimp only at hSw); go_simp <;> first | done | with_reducible rfl | omega | (simp; done) | (simp; omega) | (simp [*]; done) | (simp [*]; omega) | exact decide_eq_false (by omega) | exact decide_eq_true (by omega))
                    try simp only [putW, setZ, setS]
                    refine tkW 25 { dst := some 50, op := Op.pick (Operand.tmp 44) (Operand.tmp 49) (Operand.const (Value.bool false)), type := 4, pos := "serial.go:77", after := _, guard := some (16, false) } (v := ?ver25) rfl (Or.inl ⟨by rfl, ?hyer25⟩) ?rester25
                    case hyer25 => (intro w hSw; (try dsimp only at hSw); go_simp <;> with_reducible rfl)
                    try simp only [putW, setZ, setS]
                    refine tkW 26 { dst := some 51, op := Op.pick (Operand.tmp 41) (Operand.const (Value.bool true)) (Operand.tmp 50), type := 4, pos := "serial.go:77", after := _, guard := some (10, true) } (v := ?ver26) rfl (Or.inl ⟨by rfl, ?hyer26⟩) ?rester26
                    case hyer26 => (intro w hSw; (try dsimp only at hSw); go_simp <;> with_reducible rfl)
                    try simp only [putW, setZ, setS]
                    refine tkW 27 { dst := some 52, op := Op.pick (Operand.tmp 35) (Operand.tmp 51) (Operand.const (Value.bool false)), type := 4, pos := "serial.go:77", after := _, guard := none } (v := ?ver27) rfl (Or.inl ⟨by rfl, ?hyer27⟩) ?rester27
                    case hyer27 => (intro w hSw; (try dsimp only at hSw); go_simp <;> with_reducible rfl)
                    try simp only [putW, setZ, setS]
                    refine wpAnyH_done (by kernel_rfl) ?_ _
                    go_wp2
                    go_ret
                    refine ⟨?_, HNX.out _ hX7 |>.1⟩
                    exact congrArg (fun b => Ending.returned (.bool b)) (HF.out i k hlt hk (fun h => by have h2 := h a HA0.out y HY0.out; rw [HBAD.out] at h2; cases h2)).symm
                  · have HBAD := Lib.hid (show badQ i k a y = false from by unfold badQ; simp [hgt, heq])
                    refine wp_region_held_drew (S := fun w' => w'.cell? ⟨B, 9, none⟩ = some (.int .i64 a.to_) ∧ w'.cell? ⟨D, 8, none⟩ = some (.int .i64 y.fr) ∧ Blk w' B 27 (encRx a).toArray ∧ Blk w' D 27 (encRx y).toArray) (by kernel_rfl) ?_ (fun hHeldfr => ?_)
                    · exact rs_of HBA.out.drew HBD.out.drew
                    refine tkW 0 { dst := some 25, op := Op.move (Operand.tmp 4), type := 3, pos := "serial.go:77", after := _, guard := none } (v := ?vfr0) rfl (Or.inl ⟨by rfl, ?hyfr0⟩) ?restfr0
                    case hyfr0 => (intro w hSw; (try dsimp only at hSw); go_simp <;> with_reducible rfl)
                    try simp only [putW, setZ, setS]
                    refine tkW 1 { dst := some 26, op := Op.move (Operand.tmp 6), type := 3, pos := "serial.go:77", after := _, guard := none } (v := ?vfr1) rfl (Or.inl ⟨by rfl, ?hyfr1⟩) ?restfr1
                    case hyfr1 => (intro w hSw; (try dsimp only at hSw); go_simp <;> with_reducible rfl)
                    try simp only [putW, setZ, setS]
                    refine tkW 2 { dst := some 27, op := Op.binOp BinOp.neq 3 (Operand.tmp 25) (Operand.tmp 26) 3, type := 4, pos := "serial.go:77", after := _, guard := none } (v := .bool true) rfl (Or.inl ⟨by rfl, ?hyfr2⟩) ?restfr2
                    case hyfr2 => (intro w hSw; (try dsimp only at hSw); go_simp <;> first | done | with_reducible rfl | omega | (simp; done) | (simp; omega) | (simp [*]; done) | (simp [*]; omega) | exact decide_eq_false (by omega) | exact decide_eq_true (by omega))
                    try simp only [putW, setZ, setS]
                    refine tkW 3 { dst := some 28, op := Op.move (Operand.tmp 27), type := 4, pos := "serial.go:77", after := _, guard := none } (v := ?vfr3) rfl (Or.inl ⟨by rfl, ?hyfr3⟩) ?restfr3
                    case hyfr3 => (intro w hSw; (try dsimp only at hSw); go_simp <;> with_reducible rfl)
                    try simp only [putW, setZ, setS]
                    refine tkW 4 { dst := some 29, op := Op.fieldAddr 27 (Operand.tmp 5) 9, type := 0, pos := "serial.go:77", after := _, guard := some (3, true) } (v := ?vfr4) rfl (Or.inl ⟨by rfl, ?hyfr4⟩) ?restfr4
                    case hyfr4 => (intro w hSw; (try dsimp only at hSw); go_simp <;> with_reducible rfl)
                    try simp only [putW, setZ, setS]
                    refine tkW 5 { dst := some 30, op := Op.load 3 (Operand.tmp 29), type := 3, pos := "serial.go:77", after := _, guard := some (3, true) } (v := ?vfr5) rfl (Or.inl ⟨by rfl, ?hyfr5⟩) ?restfr5
                    case hyfr5 => (intro w hSw; (try dsimp only at hSw); go_simp <;> with_reducible rfl)
                    try simp only [putW, setZ, setS]
                    refine tkW 6 { dst := some 31, op := Op.fieldAddr 27 (Operand.tmp 7) 8, type := 0, pos := "serial.go:77", after := _, guard := some (3, true) } (v := ?vfr6) rfl (Or.inl ⟨by rfl, ?hyfr6⟩) ?restfr6
                    case hyfr6 => (intro w hSw; (try dsimp only at hSw); go_simp <;> with_reducible rfl)
                    try simp only [putW, setZ, setS]
                    refine tkW 7 { dst := some 32, op := Op.load 3 (Operand.tmp 31), type := 3, pos := "serial.go:77", after := _, guard := some (3, true) } (v := ?vfr7) rfl (Or.inl ⟨by rfl, ?hyfr7⟩) ?restfr7
                    case hyfr7 => (intro w hSw; (try dsimp only at hSw); go_simp <;> with_reducible rfl)
                    try simp only [putW, setZ, setS]
                    refine tkW 8 { dst := some 33, op := Op.binOp BinOp.lss 3 (Operand.tmp 30) (Operand.tmp 32) 3, type := 4, pos := "serial.go:77", after := _, guard := some (3, true) } (v := .bool true) rfl (Or.inl ⟨by rfl, ?hyfr8⟩) ?restfr8
                    case hyfr8 => (intro w hSw; (try dsimp only at hSw); go_simp <;> first | done | with_reducible rfl | omega | (simp; done) | (simp; omega) | (simp [*]; done) | (simp [*]; omega) | exact decide_eq_false (by omega) | exact decide_eq_true (by omega))
                    try simp only [putW, setZ, setS]
                    refine tkW 9 { dst := some 34, op := Op.pick (Operand.tmp 28) (Operand.tmp 33) (Operand.const (Value.bool false)), type := 4, pos := "serial.go:77", after := _, guard := none } (v := ?vfr9) rfl (Or.inl ⟨by rfl, ?hyfr9⟩) ?restfr9
                    case hyfr9 => (intro w hSw; (try dsimp only at hSw); go_simp <;> with_reducible rfl)
                    try simp only [putW, setZ, setS]
                    refine tkW 10 { dst := some 35, op := Op.move (Operand.tmp 34), type := 4, pos := "serial.go:77", after := _, guard := none } (v := ?vfr10) rfl (Or.inl ⟨by rfl, ?hyfr10⟩) ?restfr10
                    case hyfr10 => (intro w hSw; (try dsimp only at hSw); go_simp <;> with_reducible rfl)
                    try simp only [putW, setZ, setS]
                    refine tkW 11 { dst := some 36, op := Op.load 27 (Operand.tmp 5), type := 27, pos := "serial.go:77", after := _, guard := some (10, true) } (v := .agg (encRx a).toArray) rfl (Or.inl ⟨by rfl, ?hyfr11⟩) ?restfr11
                    case hyfr11 => (intro w hSw; (try dsimp only at hSw); exact exec_load_mid rfl rfl (range_blk hSw.2.2.1) Try.underlying27 rfl rec_size)
                    try simp only [putW, setZ, setS]
                    refine tkW 13 { dst := some 38, op := Op.load 27 (Operand.tmp 7), type := 27, pos := "serial.go:77", after := _, guard := some (10, true) } (v := .agg (encRx y).toArray) rfl (Or.inl ⟨by rfl, ?hyfr13⟩) ?restfr13
                    case hyfr13 => (intro w hSw; (try dsimp only at hSw); exact exec_load_mid rfl rfl (range_blk hSw.2.2.2) Try.underlying27 rfl rec_size)
                    try simp only [putW, setZ, setS]
                    refine wpAnyH_ready (rs := [12]) (by kernel_rfl) (by simp) ?_
                    refine AllReadyH.cons (o := { dst := some 37, op := Op.call { callee := Callee.value (Operand.func 24), args := #[Operand.tmp 36], argTypes := #[27] }, type := 3, pos := "serial.go:77", after := _, guard := some (10, true) }) rfl (fun K hK => ?_) AllReadyH.nil
                    go_simp
                    refine (last_any a _).mono ?_
                    rintro e v3 ⟨rfl, hv3⟩
                    have hX3 : Below wq.heap.size wq v3 := Below.trans (Below.refl _ _).drew (hv3.mono (by first | exact Nat.le_refl _ | exact (Below.size (Below.refl _ _).drew)))
                    try go_wp2_with fail
                    refine hK.out _ _ ?_ (fun hHeldfr12 => ?_)
                    · exact rs_of (HBA.out.keep hX3) (HBD.out.keep hX3)
                    clear hK K hHeldfr
                    try simp only [Act.put, List.setIfInBounds_toArray, List.set_cons_zero, List.set_cons_succ]
                    refine wpAnyH_ready (rs := [14]) (by kernel_rfl) (by simp) ?_
                    refine AllReadyH.cons (o := { dst := some 39, op := Op.call { callee := Callee.value (Operand.func 24), args := #[Operand.tmp 38], argTypes := #[27] }, type := 3, pos := "serial.go:77", after := _, guard := some (10, true) }) rfl (fun K hK => ?_) AllReadyH.nil
                    go_simp
                    refine (last_any y _).mono ?_
                    rintro e v4 ⟨rfl, hv4⟩
                    have hX4 : Below wq.heap.size wq v4 := Below.trans hX3 (hv4.mono (by first | exact Nat.le_refl _ | exact (Below.size hX3)))
                    try go_wp2_with fail
                    refine hK.out _ _ ?_ (fun hHeldfr14 => ?_)
                    · exact rs_of (HBA.out.keep hX4) (HBD.out.keep hX4)
                    clear hK K hHeldfr12
                    try simp only [Act.put, List.setIfInBounds_toArray, List.set_cons_zero, List.set_cons_succ]
                    refine tkW 15 { dst := some 40, op := Op.binOp BinOp.gtr 3 (Operand.tmp 37) (Operand.tmp 39) 3, type := 4, pos := "serial.go:77", after := _, guard := some (10, true) } (v := .bool false) rfl (Or.inl ⟨by rfl, ?hyfr15⟩) ?restfr15
                    case hyfr15 => (intro w hSw; (try dsimp only at hSw); go_simp <;> first | done | with_reducible rfl | omega | (simp; done) | (simp; omega) | (simp [*]; done) | (simp [*]; omega) | exact decide_eq_false (by omega) | exact decide_eq_true (by omega))
                    try simp only [putW, setZ, setS]
                    refine tkW 16 { dst := some 41, op := Op.move (Operand.tmp 40), type := 4, pos := "serial.go:77", after := _, guard := some (10, true) } (v := ?vfr16) rfl (Or.inl ⟨by rfl, ?hyfr16⟩) ?restfr16
                    case hyfr16 => (intro w hSw; (try dsimp only at hSw); go_simp <;> with_reducible rfl)
                    try simp only [putW, setZ, setS]
                    refine tkW 17 { dst := some 42, op := Op.load 27 (Operand.tmp 7), type := 27, pos := "serial.go:77", after := _, guard := some (16, false) } (v := .agg (encRx y).toArray) rfl (Or.inl ⟨by rfl, ?hyfr17⟩) ?restfr17
                    case hyfr17 => (intro w hSw; (try dsimp only at hSw); exact exec_load_mid rfl rfl (range_blk hSw.2.2.2) Try.underlying27 rfl rec_size)
                    try simp only [putW, setZ, setS]
                    refine wpAnyH_ready (rs := [18]) (by kernel_rfl) (by simp) ?_
                    refine AllReadyH.cons (o := { dst := some 43, op := Op.call { callee := Callee.value (Operand.func 25), args := #[Operand.tmp 42], argTypes := #[27] }, type := 4, pos := "serial.go:77", after := _, guard := some (16, false) }) rfl (fun K hK => ?_) AllReadyH.nil
                    go_simp
                    refine (hwr _).mono ?_
                    rintro e v5 ⟨rfl, hv5⟩
                    have hX5 : Below wq.heap.size wq v5 := Below.trans hX4 (hv5.mono (by first | exact Nat.le_refl _ | exact (Below.size hX4)))
                    try go_wp2_with fail
                    refine hK.out _ _ ?_ (fun hHeldfr18 => ?_)
                    · exact rs_of (HBA.out.keep hX5) (HBD.out.keep hX5)
                    clear hK K hHeldfr14
                    try simp only [Act.put, List.setIfInBounds_toArray, List.set_cons_zero, List.set_cons_succ]
                    refine tkW 19 { dst := some 44, op := Op.move (Operand.tmp 43), type := 4, pos := "serial.go:77", after := _, guard := some (16, false) } (v := ?vfr19) rfl (Or.inl ⟨by rfl, ?hyfr19⟩) ?restfr19
                    case hyfr19 => (intro w hSw; (try dsimp only at hSw); go_simp <;> with_reducible rfl)
                    try simp only [putW, setZ, setS]
                    refine tkW 20 { dst := some 45, op := Op.load 27 (Operand.tmp 5), type := 27, pos := "serial.go:77", after := _, guard := some (19, true) } (v := .agg (encRx a).toArray) rfl (Or.inl ⟨by rfl, ?hyfr20⟩) ?restfr20
                    case hyfr20 => (intro w hSw; (try dsimp only at hSw); exact exec_load_mid rfl rfl (range_blk hSw.2.2.1) Try.underlying27 rfl rec_size)
                    try simp only [putW, setZ, setS]
                    refine tkW 22 { dst := some 47, op := Op.load 27 (Operand.tmp 7), type := 27, pos := "serial.go:77", after := _, guard := some (19, true) } (v := .agg (encRx y).toArray) rfl (Or.inl ⟨by rfl, ?hyfr22⟩) ?restfr22
                    case hyfr22 => (intro w hSw; (try dsimp only at hSw); exact exec_load_mid rfl rfl (range_blk hSw.2.2.2) Try.underlying27 rfl rec_size)
                    try simp only [putW, setZ, setS]
                    refine wpAnyH_ready (rs := [21]) (by kernel_rfl) (by simp) ?_
                    refine AllReadyH.cons (o := { dst := some 46, op := Op.call { callee := Callee.value (Operand.func 24), args := #[Operand.tmp 45], argTypes := #[27] }, type := 3, pos := "serial.go:77", after := _, guard := some (19, true) }) rfl (fun K hK => ?_) AllReadyH.nil
                    go_simp
                    refine (last_any a _).mono ?_
                    rintro e v6 ⟨rfl, hv6⟩
                    have hX6 : Below wq.heap.size wq v6 := Below.trans hX5 (hv6.mono (by first | exact Nat.le_refl _ | exact (Below.size hX5)))
                    try go_wp2_with fail
                    refine hK.out _ _ ?_ (fun hHeldfr21 => ?_)
                    · exact rs_of (HBA.out.keep hX6) (HBD.out.keep hX6)
                    clear hK K hHeldfr18
                    try simp only [Act.put, List.setIfInBounds_toArray, List.set_cons_zero, List.set_cons_succ]
                    refine wpAnyH_ready (rs := [23]) (by kernel_rfl) (by simp) ?_
                    refine AllReadyH.cons (o := { dst := some 48, op := Op.call { callee := Callee.value (Operand.func 24), args := #[Operand.tmp 47], argTypes := #[27] }, type := 3, pos := "serial.go:77", after := _, guard := some (19, true) }) rfl (fun K hK => ?_) AllReadyH.nil
                    go_simp
                    refine (last_any y _).mono ?_
                    rintro e v7 ⟨rfl, hv7⟩
                    have hX7 : Below wq.heap.size wq v7 := Below.trans hX6 (hv7.mono (by first | exact Nat.le_refl _ | exact (Below.size hX6)))
                    try go_wp2_with fail
                    refine hK.out _ _ ?_ (fun hHeldfr23 => ?_)
                    · exact rs_of (HBA.out.keep hX7) (HBD.out.keep hX7)
                    clear hK K hHeldfr21
                    try simp only [Act.put, List.setIfInBounds_toArray, List.set_cons_zero, List.set_cons_succ]
                    refine tkW 24 { dst := some 49, op := Op.binOp BinOp.eql 3 (Operand.tmp 46) (Operand.tmp 48) 3, type := 4, pos := "serial.go:77", after := _, guard := some (19, true) } (v := .bool false) rfl (Or.inl ⟨by rfl, ?hyfr24⟩) ?restfr24
                    case hyfr24 => (intro w hSw; (try dsimp only at hSw); go_simp <;> first | done | with_reducible rfl | omega | (simp; done) | (simp; omega) | (simp [*]; done) | (simp [*]; omega) | exact decide_eq_false (by omega) | exact decide_eq_true (by omega))
                    try simp only [putW, setZ, setS]
                    refine tkW 25 { dst := some 50, op := Op.pick (Operand.tmp 44) (Operand.tmp 49) (Operand.const (Value.bool false)), type := 4, pos := "serial.go:77", after := _, guard := some (16, false) } (v := ?vfr25) rfl (Or.inl ⟨by rfl, ?hyfr25⟩) ?restfr25
                    case hyfr25 => (intro w hSw; (try dsimp only at hSw); go_simp <;> with_reducible rfl)
                    try simp only [putW, setZ, setS]
                    refine tkW 26 { dst := some 51, op := Op.pick (Operand.tmp 41) (Operand.const (Value.bool true)) (Operand.tmp 50), type := 4, pos := "serial.go:77", after := _, guard := some (10, true) } (v := ?vfr26) rfl (Or.inl ⟨by rfl, ?hyfr26⟩) ?restfr26
                    case hyfr26 => (intro w hSw; (try dsimp only at hSw); go_simp <;> with_reducible rfl)
                    try simp only [putW, setZ, setS]
                    refine tkW 27 { dst := some 52, op := Op.pick (Operand.tmp 35) (Operand.tmp 51) (Operand.const (Value.bool false)), type := 4, pos := "serial.go:77", after := _, guard := none } (v := ?vfr27) rfl (Or.inl ⟨by rfl, ?hyfr27⟩) ?restfr27
                    case hyfr27 => (intro w hSw; (try dsimp only at hSw); go_simp <;> with_reducible rfl)
                    try simp only [putW, setZ, setS]
                    refine wpAnyH_done (by kernel_rfl) ?_ _
                    go_wp2
                    go_roundg (n - (k + 1))
                    case measure => omega
                    case rel => exact ⟨k + 1, by go_num, by omega, by omega, (show Hid _ from ⟨HST.out HBAD.out, HNX.out _ hX7⟩)⟩
            · have HBAD := Lib.hid (show badQ i k a y = false from by unfold badQ; simp [hto])
              refine wp_region_held_drew (S := fun w' => w'.cell? ⟨B, 9, none⟩ = some (.int .i64 a.to_) ∧ w'.cell? ⟨D, 8, none⟩ = some (.int .i64 y.fr) ∧ Blk w' B 27 (encRx a).toArray ∧ Blk w' D 27 (encRx y).toArray) (by kernel_rfl) ?_ (fun hHeldgr => ?_)
              · exact rs_of HBA.out.drew HBD.out.drew
              refine tkW 0 { dst := some 25, op := Op.move (Operand.tmp 4), type := 3, pos := "serial.go:77", after := _, guard := none } (v := ?vgr0) rfl (Or.inl ⟨by rfl, ?hygr0⟩) ?restgr0
              case hygr0 => (intro w hSw; (try dsimp only at hSw); go_simp <;> with_reducible rfl)
              try simp only [putW, setZ, setS]
              refine tkW 1 { dst := some 26, op := Op.move (Operand.tmp 6), type := 3, pos := "serial.go:77", after := _, guard := none } (v := ?vgr1) rfl (Or.inl ⟨by rfl, ?hygr1⟩) ?restgr1
              case hygr1 => (intro w hSw; (try dsimp only at hSw); go_simp <;> with_reducible rfl)
              try simp only [putW, setZ, setS]
              refine tkW 2 { dst := some 27, op := Op.binOp BinOp.neq 3 (Operand.tmp 25) (Operand.tmp 26) 3, type := 4, pos := "serial.go:77", after := _, guard := none } (v := .bool true) rfl (Or.inl ⟨by rfl, ?hygr2⟩) ?restgr2
              case hygr2 => (intro w hSw; (try dsimp only at hSw); go_simp <;> first | done | with_reducible rfl | omega | (simp; done) | (simp; omega) | (simp [*]; done) | (simp [*]; omega) | exact decide_eq_false (by omega) | exact decide_eq_true (by omega))
              try simp only [putW, setZ, setS]
              refine tkW 3 { dst := some 28, op := Op.move (Operand.tmp 27), type := 4, pos := "serial.go:77", after := _, guard := none } (v := ?vgr3) rfl (Or.inl ⟨by rfl, ?hygr3⟩) ?restgr3
              case hygr3 => (intro w hSw; (try dsimp only at hSw); go_simp <;> with_reducible rfl)
              try simp only [putW, setZ, setS]
              refine tkW 4 { dst := some 29, op := Op.fieldAddr 27 (Operand.tmp 5) 9, type := 0, pos := "serial.go:77", after := _, guard := some (3, true) } (v := ?vgr4) rfl (Or.inl ⟨by rfl, ?hygr4⟩) ?restgr4
              case hygr4 => (intro w hSw; (try dsimp only at hSw); go_simp <;> with_reducible rfl)
              try simp only [putW, setZ, setS]
              refine tkW 5 { dst := some 30, op := Op.load 3 (Operand.tmp 29), type := 3, pos := "serial.go:77", after := _, guard := some (3, true) } (v := ?vgr5) rfl (Or.inl ⟨by rfl, ?hygr5⟩) ?restgr5
              case hygr5 => (intro w hSw; (try dsimp only at hSw); go_simp <;> with_reducible rfl)
              try simp only [putW, setZ, setS]
              refine tkW 6 { dst := some 31, op := Op.fieldAddr 27 (Operand.tmp 7) 8, type := 0, pos := "serial.go:77", after := _, guard := some (3, true) } (v := ?vgr6) rfl (Or.inl ⟨by rfl, ?hygr6⟩) ?restgr6
              case hygr6 => (intro w hSw; (try dsimp only at hSw); go_simp <;> with_reducible rfl)
              try simp only [putW, setZ, setS]
              refine tkW 7 { dst := some 32, op := Op.load 3 (Operand.tmp 31), type := 3, pos := "serial.go:77", after := _, guard := some (3, true) } (v := ?vgr7) rfl (Or.inl ⟨by rfl, ?hygr7⟩) ?restgr7
              case hygr7 => (intro w hSw; (try dsimp only at hSw); go_simp <;> with_reducible rfl)
              try simp only [putW, setZ, setS]
              refine tkW 8 { dst := some 33, op := Op.binOp BinOp.lss 3 (Operand.tmp 30) (Operand.tmp 32) 3, type := 4, pos := "serial.go:77", after := _, guard := some (3, true) } (v := .bool false) rfl (Or.inl ⟨by rfl, ?hygr8⟩) ?restgr8
              case hygr8 => (intro w hSw; (try dsimp only at hSw); go_simp <;> first | done | with_reducible rfl | omega | (simp; done) | (simp; omega) | (simp [*]; done) | (simp [*]; omega) | exact decide_eq_false (by omega) | exact decide_eq_true (by omega))
              try simp only [putW, setZ, setS]
              refine tkW 9 { dst := some 34, op := Op.pick (Operand.tmp 28) (Operand.tmp 33) (Operand.const (Value.bool false)), type := 4, pos := "serial.go:77", after := _, guard := none } (v := ?vgr9) rfl (Or.inl ⟨by rfl, ?hygr9⟩) ?restgr9
              case hygr9 => (intro w hSw; (try dsimp only at hSw); go_simp <;> with_reducible rfl)
              try simp only [putW, setZ, setS]
              refine tkW 10 { dst := some 35, op := Op.move (Operand.tmp 34), type := 4, pos := "serial.go:77", after := _, guard := none } (v := ?vgr10) rfl (Or.inl ⟨by rfl, ?hygr10⟩) ?restgr10
              case hygr10 => (intro w hSw; (try dsimp only at hSw); go_simp <;> with_reducible rfl)
              try simp only [putW, setZ, setS]
              refine tkW 11 { dst := some 36, op := Op.load 27 (Operand.tmp 5), type := 27, pos := "serial.go:77", after := _, guard := some (10, true) } rfl (Or.inr ⟨by rfl, rfl⟩) ?_
              try simp only [putW, setZ, setS]
              refine tkW 12 { dst := some 37, op := Op.call { callee := Callee.value (Operand.func 24), args := #[Operand.tmp 36], argTypes := #[27] }, type := 3, pos := "serial.go:77", after := _, guard := some (10, true) } rfl (Or.inr ⟨by rfl, rfl⟩) ?_
              try simp only [putW, setZ, setS]
              refine tkW 13 { dst := some 38, op := Op.load 27 (Operand.tmp 7), type := 27, pos := "serial.go:77", after := _, guard := some (10, true) } rfl (Or.inr ⟨by rfl, rfl⟩) ?_
              try simp only [putW, setZ, setS]
              refine tkW 14 { dst := some 39, op := Op.call { callee := Callee.value (Operand.func 24), args := #[Operand.tmp 38], argTypes := #[27] }, type := 3, pos := "serial.go:77", after := _, guard := some (10, true) } rfl (Or.inr ⟨by rfl, rfl⟩) ?_
              try simp only [putW, setZ, setS]
              refine tkW 15 { dst := some 40, op := Op.binOp BinOp.gtr 3 (Operand.tmp 37) (Operand.tmp 39) 3, type := 4, pos := "serial.go:77", after := _, guard := some (10, true) } rfl (Or.inr ⟨by rfl, rfl⟩) ?_
              try simp only [putW, setZ, setS]
              refine tkW 16 { dst := some 41, op := Op.move (Operand.tmp 40), type := 4, pos := "serial.go:77", after := _, guard := some (10, true) } rfl (Or.inr ⟨by rfl, rfl⟩) ?_
              try simp only [putW, setZ, setS]
              refine tkW 17 { dst := some 42, op := Op.load 27 (Operand.tmp 7), type := 27, pos := "serial.go:77", after := _, guard := some (16, false) } rfl (Or.inr ⟨by rfl, rfl⟩) ?_
              try simp only [putW, setZ, setS]
              refine tkW 18 { dst := some 43, op := Op.call { callee := Callee.value (Operand.func 25), args := #[Operand.tmp 42], argTypes := #[27] }, type := 4, pos := "serial.go:77", after := _, guard := some (16, false) } rfl (Or.inr ⟨by rfl, rfl⟩) ?_
              try simp only [putW, setZ, setS]
              refine tkW 19 { dst := some 44, op := Op.move (Operand.tmp 43), type := 4, pos := "serial.go:77", after := _, guard := some (16, false) } rfl (Or.inr ⟨by rfl, rfl⟩) ?_
              try simp only [putW, setZ, setS]
              refine tkW 20 { dst := some 45, op := Op.load 27 (Operand.tmp 5), type := 27, pos := "serial.go:77", after := _, guard := some (19, true) } rfl (Or.inr ⟨by rfl, rfl⟩) ?_
              try simp only [putW, setZ, setS]
              refine tkW 21 { dst := some 46, op := Op.call { callee := Callee.value (Operand.func 24), args := #[Operand.tmp 45], argTypes := #[27] }, type := 3, pos := "serial.go:77", after := _, guard := some (19, true) } rfl (Or.inr ⟨by rfl, rfl⟩) ?_
              try simp only [putW, setZ, setS]
              refine tkW 22 { dst := some 47, op := Op.load 27 (Operand.tmp 7), type := 27, pos := "serial.go:77", after := _, guard := some (19, true) } rfl (Or.inr ⟨by rfl, rfl⟩) ?_
              try simp only [putW, setZ, setS]
              refine tkW 23 { dst := some 48, op := Op.call { callee := Callee.value (Operand.func 24), args := #[Operand.tmp 47], argTypes := #[27] }, type := 3, pos := "serial.go:77", after := _, guard := some (19, true) } rfl (Or.inr ⟨by rfl, rfl⟩) ?_
              try simp only [putW, setZ, setS]
              refine tkW 24 { dst := some 49, op := Op.binOp BinOp.eql 3 (Operand.tmp 46) (Operand.tmp 48) 3, type := 4, pos := "serial.go:77", after := _, guard := some (19, true) } rfl (Or.inr ⟨by rfl, rfl⟩) ?_
              try simp only [putW, setZ, setS]
              refine tkW 25 { dst := some 50, op := Op.pick (Operand.tmp 44) (Operand.tmp 49) (Operand.const (Value.bool false)), type := 4, pos := "serial.go:77", after := _, guard := some (16, false) } rfl (Or.inr ⟨by rfl, rfl⟩) ?_
              try simp only [putW, setZ, setS]
              refine tkW 26 { dst := some 51, op := Op.pick (Operand.tmp 41) (Operand.const (Value.bool true)) (Operand.tmp 50), type := 4, pos := "serial.go:77", after := _, guard := some (10, true) } rfl (Or.inr ⟨by rfl, rfl⟩) ?_
              try simp only [putW, setZ, setS]
              refine tkW 27 { dst := some 52, op := Op.pick (Operand.tmp 35) (Operand.tmp 51) (Operand.const (Value.bool false)), type := 4, pos := "serial.go:77", after := _, guard := none } (v := ?vgr27) rfl (Or.inl ⟨by rfl, ?hygr27⟩) ?restgr27
              case hygr27 => (intro w hSw; (try dsimp only at hSw); go_simp <;> with_reducible rfl)
              try simp only [putW, setZ, setS]
              refine wpAnyH_done (by kernel_rfl) ?_ _
              go_wp2
              go_roundg (n - (k + 1))
              case measure => omega
              case rel => exact ⟨k + 1, by go_num, by omega, by omega, (show Hid _ from ⟨HST.out HBAD.out, HNX.out _ (Below.refl _ _).drew⟩)⟩
        · obtain rfl : k = n := by omega
          go_wp2
          go_roundg (k - (i + 1))
          case measure => omega
          case rel => exact ⟨i + 1, by go_num, by omega, by omega, (show Hid _ from ⟨fun i' hi' => (by
              rcases Nat.lt_or_ge i' i with h1 | h1
              · exact HI.out.1 i' h1
              · obtain rfl : i' = i := by omega
                exact HJ.out.1), HJ.out.2.1, HJ.out.2.2.1⟩)⟩
    · obtain rfl : i = n := by omega
      go_wp2
      go_ret
      exact ⟨congrArg (fun b => Ending.returned (.bool b)) (HT.out HI.out.1).symm, HI.out.2.1⟩
end Go.Proofs.Ytmcbnpeihedcaaa
namespace Go.Proofs.Ytmcbnpeihedcaaa
set_option linter.unusedSimpArgs false
open Go Go.RowKit
set_option linter.unusedVariables false

/-! ### The clock's bounds -/
structure BdI (m : Mm) : Prop where
  n : 0 ≤ m.now
  t : ∀ (k : Nat) t, m.T[k]? = some t → 0 ≤ t.wv ∧ t.wv ≤ m.now ∧ 0 ≤ t.rv
  h : ∀ x ∈ m.H, 0 ≤ x.wv ∧ x.wv ≤ m.now ∧ 0 ≤ x.rv
section
variable {words : Nat} {mx : Int} {pl : List (List (List Ac))} {m m' : Mm} {k : Nat} {t t' : Tx} {txs : List (List Ac)}
theorem BdI.with (h : BdI m) (hn : m.now ≤ m'.now) (hT : m'.T = m.T.set k t') (ht : 0 ≤ t'.wv ∧ t'.wv ≤ m'.now ∧ 0 ≤ t'.rv) (hH : ∀ x ∈ m'.H, x ∈ m.H ∨ (0 ≤ x.wv ∧ x.wv ≤ m'.now ∧ 0 ≤ x.rv)) : BdI (timeM m') := by
  refine ⟨?_, fun j u hu => ?_, fun x hx => ?_⟩
  · show 0 ≤ m'.now
    have := h.n; omega
  · replace hu : m'.T[j]? = some u := hu
    show 0 ≤ u.wv ∧ u.wv ≤ m'.now ∧ 0 ≤ u.rv
    rw [hT] at hu
    rcases set_get hu with ⟨_, rfl⟩ | ⟨_, hu⟩
    · exact ht
    · have := h.t j u hu; omega
  · show 0 ≤ x.wv ∧ x.wv ≤ m'.now ∧ 0 ≤ x.rv
    rcases hH x hx with hx | hx
    · have := h.h x hx; omega
    · exact hx
theorem bd_way (hg : Good words pl m) (h : BdI m) (hk : m.T[k]? = some t) (hw : Way txs m k t m') : BdI (timeM m') := by
  have ht := h.t k t hk
  have hn := h.n
  have hov : ∀ how : Int, 0 ≤ (overT t how).wv ∧ (overT t how).wv ≤ m.now ∧ 0 ≤ (overT t how).rv := fun how => by
    unfold overT; split <;> exact ⟨Int.le_refl _, hn, Int.le_refl _⟩
  have hend : ∀ (how : Int) (n : Mm), n.H = m.H → ∀ x ∈ (endM n k t how).H, x ∈ m.H ∨ (0 ≤ x.wv ∧ x.wv ≤ m.now ∧ 0 ≤ x.rv) := by
    intro how n hH x hx
    simp only [endM, overM, tellM, List.mem_append, List.mem_singleton, hH] at hx
    rcases hx with hx | rfl
    · exact .inl hx
    · exact .inr ht
  cases hw with
  | begins hs => exact h.with (Int.le_refl _) rfl ⟨ht.1, ht.2.1, hn⟩ (fun x hx => .inl hx)
  | writes hs a ha hd u => exact h.with (Int.le_refl _) rfl ht (fun x hx => .inl hx)
  | own hs a ha hd p hp hpa u => exact h.with (Int.le_refl _) rfl ht (fun x hx => .inl hx)
  | reads hs a ha hd hnn hs2 u => exact h.with (Int.le_refl _) rfl ht (fun x hx => .inl hx)
  | blind hs a ha hd hnn hs2 => exact h.with (m' := endM m k t 1) (Int.le_refl _) rfl (hov 1) (hend 1 m rfl)
  | readonly hs hpc hW => exact h.with (m' := endM m k t 0) (Int.le_refl _) rfl (hov 0) (hend 0 m rfl)
  | holds hs hpc hW => exact h.with (Int.le_refl _) rfl ht (fun x hx => .inl hx)
  | takes hs x hx ht2 => exact h.with (Int.le_refl _) rfl ht (fun x hx => .inl hx)
  | clash hs x hx ht2 => exact h.with (m' := quitM m k t 1) (Int.le_refl _) rfl (hov 1) (hend 1 _ rfl)
  | ticks hs ht2 =>
    rcases tick_cases hg.may with ⟨_, e⟩ | ⟨hlt, e⟩
    · rw [e] at ht2; simp at ht2
    · refine h.with (m' := { m with now := (tickL m.now m.mx m.L).1, T := m.T.set k { t with wv := (tickL m.now m.mx m.L).2.1, st := 4, i := 0 } }) ?_ rfl ?_ (fun x hx => .inl hx)
      · show m.now ≤ (tickL m.now m.mx m.L).1
        rw [e]; show m.now ≤ m.now + 1; omega
      · show 0 ≤ (tickL m.now m.mx m.L).2.1 ∧ (tickL m.now m.mx m.L).2.1 ≤ (tickL m.now m.mx m.L).1 ∧ 0 ≤ t.rv
        rw [e]; show 0 ≤ m.now + 1 ∧ m.now + 1 ≤ m.now + 1 ∧ 0 ≤ t.rv; omega
  | late hs ht2 => exact h.with (m' := quitM m k t 2) (Int.le_refl _) rfl (hov 2) (hend 2 _ rfl)
  | checks hs x hx hs2 => exact h.with (Int.le_refl _) rfl ht (fun x hx => .inl hx)
  | stale hs x hx hs2 => exact h.with (m' := quitM m k t 1) (Int.le_refl _) rfl (hov 1) (hend 1 _ rfl)
  | done hs hx =>
    refine h.with (m' := { tellM m k t 0 with T := m.T.set k { t with st := 5, i := 0 } }) (Int.le_refl _) rfl ht (fun x hx => ?_)
    simp only [tellM, List.mem_append, List.mem_singleton] at hx
    rcases hx with hx | rfl
    · exact .inl hx
    · exact .inr ht
  | backs hs x hx =>
    refine h.with (m' := { m with W := m.W.set x.at_.toNat x.v, L := (giveL m.now m.mx m.L x.at_ (k : Int) t.wv).2, T := m.T.set k (if t.i + 1 = t.W.length then overT t 0 else { t with i := t.i + 1 }) }) (Int.le_refl _) rfl ?_ (fun x hx => .inl hx)
    split
    · exact hov 0
    · exact ht
theorem bd_run (hp : PlanOk words mx pl) (picks : List Int) : BdI (runM words mx pl picks) := by
  refine run_ind hp ⟨Int.le_refl _, fun k t hk => ?_, fun x hx => by simp [initM] at hx⟩ (fun m k t txs m' hg h hk _ _ hw => bd_way hg h hk hw) (fun m h => ⟨h.n, h.t, h.h⟩) picks
  simp only [initM] at hk
  rw [List.eq_of_mem_replicate (List.mem_of_getElem? hk)]
  exact ⟨Int.le_refl _, Int.le_refl _, Int.le_refl _⟩
end

/-! ### What is told -/
structure FinI (words : Nat) (H : List Rx) : Prop where
  op : ∀ x ∈ H, ∀ p ∈ x.R, 0 ≤ p.at_ ∧ p.at_ < (words : Int) ∧ LastW H x.rv p.at_ p.v
  sr : ∀ x ∈ H, DoneX x → x.rv < x.wv ∧ ∀ p ∈ x.R, LastW H (x.wv - 1) p.at_ p.v
  dx : H.Pairwise (fun x y => DoneX x → DoneX y → x.wv ≠ y.wv)
  ex : ∀ x ∈ H, ∀ y ∈ H, x.to_ < y.fr → lst x ≤ y.rv
  ws : ∀ x ∈ H, x.W.Pairwise (fun p q => p.at_ < q.at_)
  bd : ∀ x ∈ H, 0 ≤ x.wv ∧ x.wv ≤ 1000 ∧ 0 ≤ x.rv
theorem fin_of {words : Nat} {pl : List (List (List Ac))} {s : Mm} (hg : Good words pl s) (hO : OrdI s) (h : SerI words s) (hb : BdI s) : FinI words s.H := by
  refine ⟨fun x hx p hp => ⟨(h.ra x hx p hp).1, (h.ra x hx p hp).2, h.rx x hx p hp⟩, fun x hx hd => ?_, h.dx, h.ex, fun x hx => (hO.hs x hx).1, fun x hx => ?_⟩
  · have h1 := (hO.hs x hx).2.2 hd.1 hd.2
    refine ⟨h1.1, fun p hp => (h.rx x hx p hp).up (by omega) (fun y hy hw hle => ?_)⟩
    exact h.cx x hx hd p hp y hy hw (by omega)
  · have := hb.h x hx
    have := (may_iff.1 hg.may)
    omega
theorem lst_er (x : Rx) : lst (erX x) = lst x := rfl
theorem last_er {H : List Rx} {ver a v : Int} (h : LastW (H.map erX) ver a v) : LastW H ver a v := by
  rcases h with ⟨x, hx, h1, h2, h3, h4⟩ | ⟨h1, h2⟩
  · obtain ⟨x', hx', rfl⟩ := List.mem_map.1 hx
    exact .inl ⟨x', hx', h1, h2, h3, fun y hy hw => h4 (erX y) (List.mem_map_of_mem hy) hw⟩
  · exact .inr ⟨h1, fun y hy hw => h2 (erX y) (List.mem_map_of_mem hy) hw⟩
theorem last_er' {H : List Rx} {ver a v : Int} (h : LastW H ver a v) : LastW (H.map erX) ver a v := by
  rcases h with ⟨x, hx, h1, h2, h3, h4⟩ | ⟨h1, h2⟩
  · refine .inl ⟨erX x, List.mem_map_of_mem hx, h1, h2, h3, fun y hy hw => ?_⟩
    obtain ⟨y', hy', rfl⟩ := List.mem_map.1 hy
    exact h4 y' hy' hw
  · refine .inr ⟨h1, fun y hy hw => ?_⟩
    obtain ⟨y', hy', rfl⟩ := List.mem_map.1 hy
    exact h2 y' hy' hw
theorem last_eq {H K : List Rx} (e : H.map erX = K.map erX) {ver a v : Int} (h : LastW K ver a v) : LastW H ver a v := by
  have := last_er' h
  rw [← e] at this
  exact last_er this
theorem fin_er {words : Nat} {H K : List Rx} (e : H.map erX = K.map erX) (h : FinI words K) : FinI words H := by
  have hm : ∀ x ∈ H, ∃ y ∈ K, erX y = erX x := by
    intro x hx
    have : erX x ∈ K.map erX := by rw [← e]; exact List.mem_map_of_mem hx
    exact List.mem_map.1 this
  have f1 : ∀ {x y : Rx}, erX y = erX x → y.R = x.R ∧ y.W = x.W ∧ y.rv = x.rv ∧ y.wv = x.wv ∧ y.en = x.en ∧ y.fr = x.fr ∧ y.to_ = x.to_ := fun {x y} h =>
    ⟨(congrArg Rx.R h : (erX y).R = (erX x).R), (congrArg Rx.W h : (erX y).W = (erX x).W), (congrArg Rx.rv h : (erX y).rv = (erX x).rv), (congrArg Rx.wv h : (erX y).wv = (erX x).wv), (congrArg Rx.en h : (erX y).en = (erX x).en), (congrArg Rx.fr h : (erX y).fr = (erX x).fr), (congrArg Rx.to_ h : (erX y).to_ = (erX x).to_)⟩
  refine ⟨fun x hx p hp => ?_, fun x hx hd => ?_, ?_, fun x hx y hy hlt => ?_, fun x hx => ?_, fun x hx => ?_⟩
  · obtain ⟨y, hy, e1⟩ := hm x hx
    obtain ⟨g1, g2, g3, g4, g5, g6, g7⟩ := f1 e1
    obtain ⟨h1, h2, h3⟩ := h.op y hy p (by rw [g1]; exact hp)
    exact ⟨h1, h2, by rw [← g3]; exact last_eq e h3⟩
  · obtain ⟨y, hy, e1⟩ := hm x hx
    obtain ⟨g1, g2, g3, g4, g5, g6, g7⟩ := f1 e1
    obtain ⟨h1, h2⟩ := h.sr y hy ⟨by rw [g5]; exact hd.1, by rw [g2]; exact hd.2⟩
    exact ⟨by omega, fun p hp => by rw [← g4]; exact last_eq e (h2 p (by rw [g1]; exact hp))⟩
  · have h1 : (K.map erX).Pairwise (fun x y => DoneX x → DoneX y → x.wv ≠ y.wv) := by
      rw [List.pairwise_map]
      exact h.dx
    rw [← e, List.pairwise_map] at h1
    exact h1
  · obtain ⟨x2, hx2, e1⟩ := hm x hx
    obtain ⟨y2, hy2, e2⟩ := hm y hy
    obtain ⟨g1, g2, g3, g4, g5, g6, g7⟩ := f1 e1
    obtain ⟨k1, k2, k3, k4, k5, k6, k7⟩ := f1 e2
    have := h.ex x2 hx2 y2 hy2 (by omega)
    have e3 : lst x2 = lst x := by rw [← lst_er x2, e1, lst_er]
    omega
  · obtain ⟨y, hy, e1⟩ := hm x hx
    obtain ⟨g1, g2, g3, g4, g5, g6, g7⟩ := f1 e1
    rw [← g2]; exact h.ws y hy
  · obtain ⟨y, hy, e1⟩ := hm x hx
    obtain ⟨g1, g2, g3, g4, g5, g6, g7⟩ := f1 e1
    have := h.bd y hy; omega

/-! ### What stands at a version -/
def pickV (i : Int) (v : Int) (p : Pr) : Int := if p.at_ = i then p.v else v
theorem putV_at (n i : Nat) (hi : i < n) (o : List Int) (p : Pr) (v0 : Int) (h0 : o[i]? = some v0) : (putP n o p)[i]? = some (pickV i v0 p) := by
  unfold putP pickV
  by_cases hc : 0 ≤ p.at_ ∧ p.at_ < (n : Int)
  · rw [if_pos hc, List.getElem?_set]
    by_cases e : p.at_.toNat = i
    · rw [if_pos e, if_pos (by rw [e]; exact (List.getElem?_eq_some_iff.1 h0).1), if_pos (by omega)]
    · rw [if_neg e, if_neg (by omega), h0]
  · rw [if_neg hc, if_neg (by omega), h0]
theorem applyV_at (n i : Nat) (hi : i < n) : ∀ (W : List Pr) (o : List Int) (v0 : Int), o[i]? = some v0 → (applyW n o W)[i]? = some (W.foldl (pickV i) v0)
  | [], o, v0, h => h
  | p :: W, o, v0, h => applyV_at n i hi W (putP n o p) _ (putV_at n i hi o p v0 h)
theorem foldV_at (n i : Nat) (hi : i < n) : ∀ (b : List Rx) (o : List Int) (v0 : Int), o[i]? = some v0 → (b.foldl (fun o x => applyW n o x.W) o)[i]? = some (b.foldl (fun v x => x.W.foldl (pickV i) v) v0)
  | [], o, v0, h => h
  | x :: b, o, v0, h => foldV_at n i hi b _ _ (applyV_at n i hi x.W o v0 h)
theorem pickV_none {i : Int} : ∀ {W : List Pr}, (∀ p ∈ W, p.at_ ≠ i) → ∀ u, W.foldl (pickV i) u = u
  | [], _, u => rfl
  | p :: W, h, u => by
    rw [List.foldl_cons, show pickV i u p = u from if_neg (h p (by simp))]
    exact pickV_none (fun q hq => h q (by simp [hq])) u
theorem pickV_keep {i v : Int} : ∀ {W : List Pr}, (∀ p ∈ W, p.at_ = i → p.v = v) → W.foldl (pickV i) v = v
  | [], _ => rfl
  | p :: W, h => by
    rw [List.foldl_cons]
    have : pickV i v p = v := by
      unfold pickV
      split
      · rename_i e; exact h p (by simp) e
      · rfl
    rw [this]
    exact pickV_keep (fun q hq => h q (by simp [hq]))
theorem pickV_some {i v : Int} : ∀ {W : List Pr}, (∀ p ∈ W, p.at_ = i → p.v = v) → (∃ p ∈ W, p.at_ = i) → ∀ u, W.foldl (pickV i) u = v
  | [], _, h, u => by obtain ⟨p, hp, _⟩ := h; cases hp
  | p :: W, h, he, u => by
    rw [List.foldl_cons]
    by_cases e : p.at_ = i
    · rw [show pickV i u p = v from by unfold pickV; rw [if_pos e]; exact h p (by simp) e]
      exact pickV_keep (fun q hq => h q (by simp [hq]))
    · refine pickV_some (fun q hq => h q (by simp [hq])) ?_ _
      obtain ⟨q, hq, e2⟩ := he
      rcases List.mem_cons.1 hq with rfl | hq
      · exact absurd e2 e
      · exact ⟨q, hq, e2⟩
theorem mem_takeW {l : List Rx} {k : Int} (hr : Rise Rx.wv l) {x : Rx} (hx : x ∈ l) (hk : x.wv ≤ k) : x ∈ l.takeWhile (fun x => decide (x.wv ≤ k)) := by
  induction l with
  | nil => cases hx
  | cons y l ih =>
    unfold Rise at hr
    rw [List.pairwise_cons] at hr
    have hy : y.wv ≤ k := by
      rcases List.mem_cons.1 hx with rfl | h
      · exact hk
      · have := hr.1 x h; omega
    rw [List.takeWhile_cons, if_pos (by simpa using hy)]
    rcases List.mem_cons.1 hx with rfl | h
    · exact List.mem_cons_self
    · exact List.mem_cons_of_mem _ (ih hr.2 h)
theorem takeW_mem {l : List Rx} {k : Int} {x : Rx} (hx : x ∈ l.takeWhile (fun x => decide (x.wv ≤ k))) : x ∈ l ∧ x.wv ≤ k := by
  induction l with
  | nil => cases hx
  | cons y l ih =>
    rw [List.takeWhile_cons] at hx
    split at hx
    · rename_i h
      rcases List.mem_cons.1 hx with rfl | hx
      · exact ⟨List.mem_cons_self, by simpa using h⟩
      · exact ⟨List.mem_cons_of_mem _ (ih hx).1, (ih hx).2⟩
    · cases hx
theorem takeW_rise {l : List Rx} {k : Int} (hr : Rise Rx.wv l) : Rise Rx.wv (l.takeWhile (fun x => decide (x.wv ≤ k))) :=
  List.Pairwise.sublist (List.takeWhile_sublist _) hr
theorem writes_done {x : Rx} : writesX x = true ↔ DoneX x := by
  unfold writesX DoneX
  rw [Bool.and_eq_true, beq_iff_eq, decide_eq_true_eq]
  constructor
  · rintro ⟨h1, h2⟩; exact ⟨h1, fun e => by rw [e] at h2; simp at h2⟩
  · rintro ⟨h1, h2⟩
    refine ⟨h1, ?_⟩
    rcases Nat.eq_zero_or_pos x.W.length with h | h
    · exact absurd (List.eq_nil_of_length_eq_zero h) h2
    · exact h
theorem ws_mem {h : List Rx} {x : Rx} : x ∈ wsOf h ↔ x ∈ h ∧ DoneX x := by
  unfold wsOf
  rw [srtK_mem, List.mem_filter, writes_done]
theorem ws_rise (h : List Rx) : Rise Rx.wv (wsOf h) := srtK_rise _
theorem same_wv {h : List Rx} (hd : h.Pairwise (fun x y => DoneX x → DoneX y → x.wv ≠ y.wv)) {x y : Rx} (hx : x ∈ h) (hy : y ∈ h) (dx : DoneX x) (dy : DoneX y) (e : x.wv = y.wv) : x = y := by
  induction h with
  | nil => cases hx
  | cons z h ih =>
    rw [List.pairwise_cons] at hd
    rcases List.mem_cons.1 hx with hx1 | hx1
    · rcases List.mem_cons.1 hy with hy1 | hy1
      · rw [hx1, hy1]
      · subst hx1; exact absurd e (hd.1 y hy1 dx dy)
    · rcases List.mem_cons.1 hy with hy1 | hy1
      · subst hy1; exact absurd e.symm (hd.1 x hx1 dy dx)
      · exact ih hd.2 hx1 hy1
theorem sorted_val {W : List Pr} (hs : W.Pairwise (fun p q => p.at_ < q.at_)) {a v : Int} (h : (⟨a, v⟩ : Pr) ∈ W) : ∀ p ∈ W, p.at_ = a → p.v = v := by
  intro p hp e
  obtain ⟨i, hi, e1⟩ := List.getElem_of_mem h
  obtain ⟨j, hj, e2⟩ := List.getElem_of_mem hp
  have hix : i = j := by
    rcases Nat.lt_trichotomy i j with h | h | h
    · have := List.pairwise_iff_getElem.1 hs i j hi hj h
      rw [e1, e2] at this
      exact absurd this (by show ¬ a < p.at_; omega)
    · exact h
    · have := List.pairwise_iff_getElem.1 hs j i hj hi h
      rw [e1, e2] at this
      exact absurd this (by show ¬ p.at_ < a; omega)
  subst hix
  rw [e1] at e2
  rw [← e2]
theorem fold_keep {g : Int → Rx → Int} {v : Int} : ∀ {l : List Rx}, (∀ y ∈ l, g v y = v) → l.foldl g v = v
  | [], _ => rfl
  | y :: l, h => by
    rw [List.foldl_cons, h y (by simp)]
    exact fold_keep (fun z hz => h z (by simp [hz]))
theorem stateL_at {words : Nat} {h : List Rx} (h1 : 1 ≤ words) (h8 : words ≤ 8) (hd : h.Pairwise (fun x y => DoneX x → DoneX y → x.wv ≠ y.wv)) (hs : ∀ x ∈ h, x.W.Pairwise (fun p q => p.at_ < q.at_)) {ver v : Int} {a : Nat} (ha : a < words) (hl : LastW h ver (a : Int) v) :
    (stateL (words : Int) h ver)[a]? = some v := by
  unfold stateL
  rw [if_neg (by omega), Int.toNat_natCast]
  unfold foldS
  rw [foldV_at words a ha _ _ 0 (by rw [List.getElem?_replicate, if_pos ha])]
  congr 1
  rcases hl with ⟨x, hx, x1, x2, x3, x4⟩ | ⟨rfl, h2⟩
  · have hdx : DoneX x := ⟨x1, fun e => by rw [e] at x3; cases x3⟩
    have hxw := mem_takeW (ws_rise h) (ws_mem.2 ⟨hx, hdx⟩) x2
    obtain ⟨l1, l2, e⟩ := List.append_of_mem hxw
    have hrise := takeW_rise (k := ver) (ws_rise h)
    rw [e] at hrise ⊢
    rw [List.foldl_append, List.foldl_cons]
    have hv : ∀ u, x.W.foldl (pickV (a : Int)) u = v := pickV_some (sorted_val (hs x hx) x3) ⟨_, x3, rfl⟩
    rw [hv]
    refine fold_keep (fun y hy => ?_)
    have hym : y ∈ (wsOf h).takeWhile (fun x => decide (x.wv ≤ ver)) := by rw [e]; simp [hy]
    obtain ⟨hyw, hyv⟩ := takeW_mem hym
    obtain ⟨hyh, hyd⟩ := ws_mem.1 hyw
    by_cases hw : Wr y (a : Int)
    · have hle := x4 y hyh hw hyv
      have hge : x.wv ≤ y.wv := by
        unfold Rise at hrise
        rw [List.pairwise_append] at hrise
        exact (List.pairwise_cons.1 hrise.2.1).1 y hy
      have : x = y := same_wv hd hx hyh hdx hyd (by omega)
      subst this
      exact hv v
    · exact pickV_none (fun p hp e2 => hw ⟨hyd.1, p, hp, e2⟩) v
  · refine fold_keep (fun y hy => ?_)
    obtain ⟨hyw, hyv⟩ := takeW_mem hy
    obtain ⟨hyh, hyd⟩ := ws_mem.1 hyw
    refine pickV_none (fun p hp e2 => ?_) 0
    have := h2 y hyh ⟨hyd.1, p, hp, e2⟩
    omega
theorem stateL_len {words : Nat} (h1 : 1 ≤ words) (h8 : words ≤ 8) (h : List Rx) (ver : Int) : (stateL (words : Int) h ver).length = words := by
  unfold stateL
  rw [if_neg (by omega), foldS_len, Int.toNat_natCast]
theorem agree_of {words : Nat} {h : List Rx} (h1 : 1 ≤ words) (h8 : words ≤ 8) (hf : FinI words h) {ver : Int} {R : List Pr} (hR : ∀ p ∈ R, 0 ≤ p.at_ ∧ p.at_ < (words : Int) ∧ LastW h ver p.at_ p.v) : agreeL R (stateL (words : Int) h ver) = true := by
  unfold agreeL
  rw [Bool.not_eq_true', List.any_eq_false]
  intro p hp
  obtain ⟨p0, p1, p2⟩ := hR p hp
  have hat : p.at_ = ((p.at_.toNat : Nat) : Int) := by omega
  rw [hat] at p2
  have := stateL_at h1 h8 hf.dx hf.ws (a := p.at_.toNat) (by omega) p2
  unfold badW
  rw [stateL_len h1 h8, decide_eq_false (by omega), decide_eq_false (by omega), List.getD_eq_getElem?_getD, this]
  simp
theorem opaque_of {words : Nat} {h : List Rx} (h1 : 1 ≤ words) (h8 : words ≤ 8) (hf : FinI words h) : opaqueL (words : Int) h = true := by
  unfold opaqueL
  rw [Bool.not_eq_true', List.any_eq_false]
  intro x hx
  unfold badO
  rw [agree_of h1 h8 hf (fun p hp => hf.op x hx p hp)]
  simp
theorem insK_ne {x : Rx} : ∀ {l : List Rx}, l.Pairwise (fun x y => x.wv ≠ y.wv) → (∀ y ∈ l, x.wv ≠ y.wv) → (insK Rx.wv x l).Pairwise (fun x y => x.wv ≠ y.wv)
  | [], _, _ => List.pairwise_singleton _ _
  | y :: l, h, hx => by
    unfold insK
    rw [List.pairwise_cons] at h
    split
    · rw [List.pairwise_cons]
      exact ⟨hx, by rw [List.pairwise_cons]; exact h⟩
    · rw [List.pairwise_cons]
      refine ⟨fun z hz => ?_, insK_ne h.2 (fun z hz => hx z (by simp [hz]))⟩
      rcases (insK_mem x l z).1 hz with rfl | hz
      · exact (hx y (by simp)).symm
      · exact h.1 z hz
theorem srtK_ne : ∀ {l : List Rx}, l.Pairwise (fun x y => x.wv ≠ y.wv) → (srtK Rx.wv l).Pairwise (fun x y => x.wv ≠ y.wv)
  | [], _ => List.Pairwise.nil
  | x :: l, h => by
    rw [List.pairwise_cons] at h
    exact insK_ne (srtK_ne h.2) (fun y hy => h.1 y (srtK_mem.1 hy))
theorem serF_of {n : Int} {h : List Rx} : ∀ (l pre : List Rx), (pre ++ l).Pairwise (fun x y => x.wv ≠ y.wv) → (∀ x ∈ l, ¬ x.wv ≤ x.rv ∧ agreeL x.R (stateL n h (IntKind.i64.wrap (x.wv - 1))) = true) → serF n h pre l = true
  | [], pre, _, _ => by simp [serF]
  | x :: l, pre, hp, hl => by
    rw [serF, serF_of l (pre ++ [x]) (by rw [List.append_assoc]; exact hp) (fun y hy => hl y (by simp [hy]))]
    obtain ⟨h1, h2⟩ := hl x (by simp)
    unfold badS
    rw [h2, decide_eq_false h1]
    have : (pre.map Rx.wv).contains x.wv = false := by
      rw [List.contains_eq_mem, decide_eq_false_iff_not]
      intro hm
      obtain ⟨y, hy, e⟩ := List.mem_map.1 hm
      rw [List.pairwise_append] at hp
      exact hp.2.2 y hy x (by simp) e
    rw [this]
    rfl
theorem serial_of {words : Nat} {h : List Rx} (h1 : 1 ≤ words) (h8 : words ≤ 8) (hf : FinI words h) : serialL (words : Int) h = true := by
  unfold serialL
  refine serF_of _ [] ?_ (fun x hx => ?_)
  · rw [List.nil_append]
    refine srtK_ne ?_
    have hd := List.Pairwise.filter (p := writesX) hf.dx
    refine hd.imp_of_mem (fun {x y} hx hy hxy => hxy (writes_done.1 (List.mem_filter.1 hx).2) (writes_done.1 (List.mem_filter.1 hy).2))
  · obtain ⟨hxh, hxd⟩ := ws_mem.1 hx
    obtain ⟨h2, h3⟩ := hf.sr x hxh hxd
    have hb := hf.bd x hxh
    refine ⟨by omega, ?_⟩
    rw [show IntKind.i64.wrap (x.wv - 1) = x.wv - 1 by rw [IntKind.wrap_i64]; omega]
    exact agree_of h1 h8 hf (fun p hp => ⟨(hf.op x hxh p hp).1, (hf.op x hxh p hp).2.1, h3 p hp⟩)
theorem last_lst (x : Rx) : lastX x = lst x := by
  unfold lastX lst
  by_cases h : DoneX x
  · rw [if_pos (writes_done.2 h), if_pos (show x.en = 0 ∧ x.W ≠ [] from h)]
  · rw [if_neg (fun e => h (writes_done.1 e)), if_neg (show ¬ (x.en = 0 ∧ x.W ≠ []) from h)]
theorem real_of {words : Nat} {h : List Rx} (hf : FinI words h) : realL h = true := by
  unfold realL
  rw [decide_eq_true_eq]
  intro i _ k _ a ha b hb
  rw [Option.mem_def] at ha hb
  have ha' := (List.mem_filter.1 (List.mem_of_getElem? ha)).1
  have hb' := (List.mem_filter.1 (List.mem_of_getElem? hb)).1
  unfold badQ
  by_cases hlt : a.to_ < b.fr
  · have h1 := hf.ex a ha' b hb' hlt
    rw [last_lst, last_lst]
    by_cases hw : DoneX b
    · have h2 : lst b = b.wv := if_pos hw
      have h3 := (hf.sr b hb' hw).1
      rw [decide_eq_false (show ¬ lst b < lst a by omega), decide_eq_false (show ¬ lst a = lst b by omega)]
      simp
    · have h2 : lst b = b.rv := if_neg hw
      rw [decide_eq_false (show ¬ lst b < lst a by omega), show writesX b = false from by rw [← Bool.not_eq_true]; exact fun e => hw (writes_done.1 e)]
      simp
  · rw [decide_eq_false hlt]
    simp

/-! ### What the laws need -/
theorem runs_fin {words : Nat} {mx : Int} {pl : List (List (List Ac))} {m : Mm} {picks : List Int} (hp : PlanOk words mx pl) (he : m.er = (runM words mx pl picks).er) : FinI words m.H := by
  obtain ⟨hO, hL, hS⟩ := ser_run hp picks
  have hb := bd_run hp picks
  refine fin_er ?_ (fin_of (good_run hp picks).1 hO hS hb)
  exact show m.er.H = (runM words mx pl picks).er.H by rw [he]
/-- When nobody holds any lock. -/
theorem now_words {words : Nat} {mx : Int} {pl : List (List (List Ac))} {m : Mm} {picks : List Int} (hp : PlanOk words mx pl) (he : m.er = (runM words mx pl picks).er) (hf : ∀ l ∈ m.L, l.o < 0) {a : Nat} {v : Int} (hv : m.W[a]? = some v) : LastW m.H m.now (a : Int) v := by
  obtain ⟨hO, hL, hS⟩ := ser_run hp picks
  have hg := (good_run hp picks).1
  obtain ⟨s, hs⟩ : ∃ s, s = runM words mx pl picks := ⟨_, rfl⟩
  rw [← hs] at he hO hL hS hg
  have eL : m.L = s.L := show m.er.L = s.er.L by rw [he]
  have eW : m.W = s.W := show m.er.W = s.er.W by rw [he]
  have en : m.now = s.now := show m.er.now = s.er.now by rw [he]
  have eH : m.H.map erX = s.H.map erX := show m.er.H = s.er.H by rw [he]
  rw [eW] at hv
  rw [en]
  have ha : a < s.L.length := by rw [hg.L, ← hg.W]; exact (List.getElem?_eq_some_iff.1 hv).1
  have hl := List.getElem?_eq_getElem ha
  have hm := may_at hg.may a ha
  refine last_eq eH ((hS.val a _ v hl hv).up (by omega) (fun y hy hw _ => ?_))
  rcases hS.top a _ y hl hy hw with h1 | ⟨k, t, h1, h2, h3, _⟩
  · exact h1
  · have := (hL.own k t a _ h1 hl).2 h3
    have := hf s.L[a] (by rw [eL]; exact List.getElem_mem ha)
    omega
theorem now_reads {words : Nat} {mx : Int} {pl : List (List (List Ac))} {m : Mm} {picks : List Int} (hp : PlanOk words mx pl) (he : m.er = (runM words mx pl picks).er) {t : Tx} (ht : t ∈ m.T) {p : Pr} (hpt : p ∈ t.R) : 0 ≤ p.at_ ∧ p.at_ < (words : Int) ∧ LastW m.H t.rv p.at_ p.v := by
  obtain ⟨hO, hL, hS⟩ := ser_run hp picks
  have hg := (good_run hp picks).1
  obtain ⟨s, hs⟩ : ∃ s, s = runM words mx pl picks := ⟨_, rfl⟩
  rw [← hs] at he hO hL hS hg
  have eH : m.H.map erX = s.H.map erX := show m.er.H = s.er.H by rw [he]
  have h1 : erT t ∈ s.er.T := by rw [← he]; exact List.mem_map_of_mem ht
  obtain ⟨u, hu, e⟩ := List.mem_map.1 (show erT t ∈ s.T.map erT from h1)
  have eR : u.R = t.R := (congrArg Tx.R e : (erT u).R = (erT t).R)
  have er : u.rv = t.rv := (congrArg Tx.rv e : (erT u).rv = (erT t).rv)
  obtain ⟨k, hk, rfl⟩ := List.getElem_of_mem hu
  have hkl : k < pl.length := by rw [← hg.T]; exact hk
  have gt := hg.ts k _ _ (List.getElem?_eq_getElem hk) (List.getElem?_eq_getElem hkl)
  rw [← eR] at hpt
  have := gt.ra p hpt
  refine ⟨this.1, this.2, ?_⟩
  rw [← er]
  exact last_eq eH (hS.rt k _ (List.getElem?_eq_getElem hk) p hpt)
end Go.Proofs.Ytmcbnpeihedcaaa
namespace Go.Proofs.Ytmcbnpeihedcaaa
set_option linter.unusedSimpArgs false
open Go Go.RowKit
set_option linter.unusedVariables false

def ax1 (A : Nat) : Rx := ⟨0, 0, 0, 0, 0, 1, none, 0, [], some ⟨A, 0, none⟩, 1, [⟨0, 7⟩], 0, 0⟩
def ax2 (A : Nat) : Rx := ⟨0, 0, 0, 0, 1, 0, some ⟨A, 0, none⟩, 1, [⟨0, 8⟩], none, 0, [], 0, 0⟩
theorem aw1 (A B : Nat) : stateL 1 [ax1 A, ax2 B] 0 = [0] := by rfl
theorem aw2 (A B : Nat) : stateL 1 [ax1 A, ax2 B] 1 = [7] := by rfl
theorem aw3 (A B : Nat) : serialL 1 [ax1 A, ax2 B] = true := by rfl
theorem aw4 (A B : Nat) : opaqueL 1 [ax1 A, ax2 B] = false := by rfl
theorem aw5 (A : Nat) : opaqueL 1 [ax1 A] = true := by rfl
theorem aw6 (A : Nat) : realL [ax1 A] = true := by rfl

theorem sl_of_cells {W : World} {g k n c : Nat} {vs : List Value} (hl : vs.length = n * k) (hc : n ≤ c) (hm : c ≤ maxLen) (hg : g < W.heap.size) (h : ∀ j u, vs[j]? = some u → W.cell? ⟨g, j, none⟩ = some u) : Sl W k (.slice (some ⟨g, 0, none⟩) n c) n vs :=
  ⟨hl, .inr ⟨_, c, rfl, hc, hm, fun _ => ⟨rfl, hg, fun j u hu => by rw [Nat.zero_add]; exact h j u hu⟩⟩⟩

set_option maxRecDepth 100000 in
set_option maxHeartbeats 4000000 in
theorem awake_any (w : World) : Calls Try.prog 8 #[] w fun e w' => e = .returned (.bool true) ∧ Below w.heap.size w w' := by
  obtain ⟨w1, hw1⟩ : ∃ x, ((w.alloc (.cells #[.int .i64 0, .int .i64 7] 34)).alloc (.cells #[.int .i64 0, .int .i64 8] 34)).alloc (.cells (encRx (ax1 w.heap.size) ++ encRx (ax2 (w.heap.size + 1))).toArray 27) = x := ⟨_, rfl⟩
  have HB := Lib.hid (show Below w.heap.size w w1 from hw1 ▸ (((Below.refl _ w).alloc (Nat.le_refl _) _).alloc (by simp) _).alloc (by simp; omega) _)
  have k1 : Blk w1 w.heap.size 34 #[.int .i64 0, .int .i64 7] := hw1 ▸ ((Blk.new_ w _ _ _ rfl).alloc _).alloc _
  have k2 : Blk w1 (w.heap.size + 1) 34 #[.int .i64 0, .int .i64 8] := hw1 ▸ (Blk.new_ _ _ _ _ (by simp)).alloc _
  have k3 : Blk w1 (w.heap.size + 1 + 1) 27 (encRx (ax1 w.heap.size) ++ encRx (ax2 (w.heap.size + 1))).toArray := hw1 ▸ Blk.new_ _ _ _ _ (by simp)
  have ok1 : RxOk w1 (ax1 w.heap.size) := ⟨Sl.nil _ _, sl_of_cells rfl (Nat.le_refl _) (by simp [ax1, maxLen]) k1.lt (fun j u hu => by rw [k1.cell]; simpa [ax1, encPr] using hu)⟩
  have ok2 : RxOk w1 (ax2 (w.heap.size + 1)) := ⟨sl_of_cells rfl (Nat.le_refl _) (by simp [ax2, maxLen]) k2.lt (fun j u hu => by rw [k2.cell]; simpa [ax2, encPr] using hu), Sl.nil _ _⟩
  have hv2 : RecsV w1 (.slice (some ⟨w.heap.size + 1 + 1, 0, none⟩) 2 2) [ax1 w.heap.size, ax2 (w.heap.size + 1)] :=
    ⟨sl_of_cells rfl (Nat.le_refl _) (by simp [maxLen]) k3.lt (fun j u hu => by rw [k3.cell, List.getElem?_toArray]; simpa using hu), fun x hx => by simp at hx; rcases hx with rfl | rfl; exact ok1; exact ok2⟩
  have hv1 : RecsV w1 (.slice (some ⟨w.heap.size + 1 + 1, 0, none⟩) 1 2) [ax1 w.heap.size] :=
    ⟨sl_of_cells rfl (by simp) (by simp [maxLen]) k3.lt (fun j u hu => by
      rw [k3.cell, List.getElem?_toArray]
      have hj := (List.getElem?_eq_some_iff.1 hu).1
      rw [List.getElem?_append_left (by simpa using hj)]; simpa using hu), fun x hx => by simp at hx; rcases hx with rfl; exact ok1⟩
  have HS := Lib.hid (fun ver W (hb : Below w1.heap.size w1 W) => state_any 1 ver _ _ W (hv2.below hb) (by simp))
  have HE := Lib.hid (fun W (hb : Below w1.heap.size w1 W) => aw3 w.heap.size (w.heap.size + 1) ▸ serial_any 1 _ _ W (hv2.below hb) (by simp) (by simp [ax1, ax2]; decide))
  have HO2 := Lib.hid (fun W (hb : Below w1.heap.size w1 W) => aw4 w.heap.size (w.heap.size + 1) ▸ opaque_any 1 _ _ W (hv2.below hb) (by simp))
  have HO1 := Lib.hid (fun W (hb : Below w1.heap.size w1 W) => aw5 w.heap.size ▸ opaque_any 1 _ _ W (hv1.below hb) (by simp))
  have HR := Lib.hid (fun W (hb : Below w1.heap.size w1 W) => aw6 w.heap.size ▸ real_any _ _ W (hv1.below hb) (by simp))
  clear hv1 hv2 ok1 ok2 k1 k2 k3
  simp only [encRx, ax1, ax2, List.length_cons, List.length_nil, List.cons_append, List.nil_append, Nat.zero_add] at hw1
  go_enter Try.func8, Try.ntmps8
  go_upto_region 2 with fail
  clear hw1
  go_wp2_with fail
  refine (HS.out 0 _ (Below.refl _ _)).mono ?_
  rintro e w2 ⟨v2, rfl, hv2, hb2⟩
  rw [aw1] at hv2
  have HB2 := Lib.hid hb2
  go_wp2_with fail
  refine (HS.out 1 _ HB2.out).mono ?_
  rintro e w3 ⟨v3, rfl, hv3, hb3⟩
  rw [aw2] at hv3
  replace hv2 := hv2.below hb3
  have HB3 := Lib.hid (HB2.out.trans (hb3.mono HB2.out.size))
  clear HB2 hb2 hb3
  obtain ⟨A2, c2, rfl, _, _⟩ := hv2.form
  obtain ⟨A3, c3, rfl, _, _⟩ := hv3.form
  obtain ⟨b2, o2, rfl, -, he2⟩ := Sl.pos (xs := [(0 : Int)]) encI encI_len hv2 (by simp)
  obtain ⟨b3, o3, rfl, -, he3⟩ := Sl.pos (xs := [(7 : Int)]) encI encI_len hv3 (by simp)
  have x2 := he2 w3 (Below.refl _ _) 0 (by simp) 0 _ rfl
  have x3 := he3 w3 (Below.refl _ _) 0 (by simp) 0 _ rfl
  simp at x2 x3
  clear he2 he3 hv2 hv3
  simp only [List.length_cons, List.length_nil, Nat.zero_add]
  go_wp2_with fail
  refine (HE.out _ HB3.out).mono ?_
  rintro e w4 ⟨rfl, hb4⟩
  have HB4 := Lib.hid (HB3.out.trans (hb4.mono HB3.out.size))
  clear HB3 hb4 x2 x3
  go_wp2_with fail
  refine (HO2.out _ HB4.out).mono ?_
  rintro e w5 ⟨rfl, hb5⟩
  have HB5 := Lib.hid (HB4.out.trans (hb5.mono HB4.out.size))
  clear HB4 hb5
  go_wp2_with fail
  refine (HO1.out _ HB5.out).mono ?_
  rintro e w6 ⟨rfl, hb6⟩
  have HB6 := Lib.hid (HB5.out.trans (hb6.mono HB5.out.size))
  clear HB5 hb6
  go_wp2_with fail
  refine (HR.out _ HB6.out).mono ?_
  rintro e w7 ⟨rfl, hb7⟩
  have HB7 := Lib.hid (HB6.out.trans (hb7.mono HB6.out.size))
  clear HB6 hb7
  go_wp2
  go_ret
  exact ⟨rfl, HB.out.trans (HB7.out.mono HB.out.size)⟩
end Go.Proofs.Ytmcbnpeihedcaaa
