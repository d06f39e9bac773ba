/- slices.insertionSortCmpFunc at []api.Rec. -/
import Derived.Test.YtmcbnpeihedcaaaSrRow
import Derived.Deep.DrawnRows
namespace Go.Proofs.Ytmcbnpeihedcaaa
set_option linter.unusedSimpArgs false
open Go Go.RowKit
set_option linter.unusedVariables false
attribute [local go_sem ↓] Go.wp_at_zero Go.wp_at_succ

/-- What a part of the sort hands back: the row, rising from a on below b, the same elsewhere; elements of one key in their order. -/
def SortPost (base g c : Nat) (l : List Rx) (a b : Nat) (w : World) (e : Ending) (w' : World) : Prop :=
  e = .returned (.tuple #[]) ∧ ∃ l' : List Rx, l'.length = l.length ∧ OwnR w' base g c l' ∧ Srt Rx.wv l' a b ∧ Out l l' a b ∧ Stab Rx.wv l l' ∧ Below base w w'

/-- The cells that a row keeps, between two rounds. -/
def InsI (base g c : Nat) (l : List Rx) (a b i : Nat) (w wr : World) (m : List Rx) : Prop :=
  OwnR wr base g c m ∧ m.length = l.length ∧ Srt Rx.wv m a i ∧ Out l m a b ∧ Stab Rx.wv l m ∧ Below base w wr

theorem cmp_neg {x y : Int} : decide (cmpI x y < 0) = decide (x < y) := by
  unfold cmpI
  by_cases h : x < y
  · simp [h]
  · rw [if_neg h]
    by_cases h2 : y < x
    · simp [h, h2]
    · simp [h, h2]

set_option maxRecDepth 100000 in
set_option maxHeartbeats 4000000 in
theorem insort_any (base g c : Nat) (l : List Rx) (a b : Nat) (w : World) (hr : OwnR w base g c l) (hbase : base ≤ w.heap.size) (hbl : b ≤ l.length) (hal : a ≤ l.length) (hn : l.length ≤ 100000) :
    Calls Try.prog 64 #[.slice (some ⟨g, 0, none⟩) l.length c, .int .i64 (a : Int), .int .i64 (b : Int), .func (.func 31) #[] #[]] w (SortPost base g c l a b w) := by
  have eg : ∀ args w, (callFunc 31 args).run Try.prog w = .ok (.enter 31 args) w := enters_of Try.func31 (by kernel_rfl) rfl
  obtain ⟨n, hnn⟩ : ∃ n, n = l.length := ⟨_, rfl⟩
  have HI := Lib.hid (show InsI base g c l a b (a + 1) w w l from ⟨hr, rfl, fun p q x y h1 h2 h3 => by omega, Out.refl _ _ _, Stab.refl _, Below.refl _ _⟩)
  have HL := Lib.hid hnn
  rw [← hnn] at hbl hal hn ⊢
  clear hr hnn
  go_enter Try.func64, Try.ntmps64
  go_wp2_with fail
  go_loopg [8] (b - a) (fun gg s8 wr => ∃ (i : Nat) (m : List Rx), a < i ∧ (i ≤ b ∨ i = a + 1) ∧ b - i ≤ gg ∧ s8 = .int .i64 i ∧ Hid (InsI base g c l a b i w wr m))
  case atStart => exact ⟨a + 1, l, by omega, .inr rfl, by omega, by go_num, HI.out⟩
  case round =>
    obtain ⟨i, m, hai, hib, hg, rfl, HM⟩ := hrel
    clear HI
    by_cases hlt : i < b
    · have hltz : (i : Int) < (b : Int) := by omega
      have HX := Lib.hid (show ∃ m', OwnR wr base g c m' ∧ Ins Rx.wv m m' a i i ∧ Below base w wr from ⟨m, HM.out.1, Ins.start HM.out.2.2.1, HM.out.2.2.2.2.2⟩)
      go_wp2_with fail
      go_loopg [9] (i - a) (fun gg s9 wr => ∃ (j : Nat) (m' : List Rx), a ≤ j ∧ j ≤ i ∧ j - a ≤ gg ∧ s9 = .int .i64 j ∧ Hid (OwnR wr base g c m' ∧ Ins Rx.wv m m' a i j ∧ Below base w wr))
      case atStart => exact ⟨i, m, by omega, by omega, by omega, rfl, HM.out.1, Ins.start HM.out.2.2.1, HM.out.2.2.2.2.2⟩
      case round =>
        obtain ⟨j, m', haj, hji, hg2, rfl, HJ⟩ := hrel
        clear HX
        obtain ⟨j', hj'⟩ : ∃ j', j' = j - 1 := ⟨_, rfl⟩
        by_cases hja : j = a
        · subst hja
          have hgt : ¬ (j : Int) < (j : Int) := by omega
          clear hj'
          go_wp2_with fail
          refine wp_region_held_drew (S := fun _ => True) (by kernel_rfl) ?_ (fun hHeldbr => ?_)
          · trivial
          refine tkW 0 { dst := some 18, op := Op.move (Operand.tmp 9), type := 3, pos := "zsortanyfunc.go:12", after := _, guard := none } (v := ?vbr0) rfl (Or.inl ⟨by rfl, ?hybr0⟩) ?restbr0
          case hybr0 => (intro w hSw; (try dsimp only at hSw); go_simp <;> with_reducible rfl)
          try simp only [putW, setZ, setS]
          refine tkW 1 { dst := some 19, op := Op.move (Operand.tmp 1), type := 3, pos := "zsortanyfunc.go:12", after := _, guard := none } (v := ?vbr1) rfl (Or.inl ⟨by rfl, ?hybr1⟩) ?restbr1
          case hybr1 => (intro w hSw; (try dsimp only at hSw); go_simp <;> with_reducible rfl)
          try simp only [putW, setZ, setS]
          refine tkW 2 { dst := some 20, op := Op.binOp BinOp.gtr 3 (Operand.tmp 18) (Operand.tmp 19) 3, type := 4, pos := "zsortanyfunc.go:12", after := _, guard := none } (v := ?vbr2) rfl (Or.inl ⟨by rfl, ?hybr2⟩) ?restbr2
          case hybr2 => (intro w hSw; (try dsimp only at hSw); go_simp <;> with_reducible rfl)
          try simp only [putW, setZ, setS]
          refine tkW 3 { dst := some 21, op := Op.move (Operand.tmp 20), type := 4, pos := "zsortanyfunc.go:12", after := _, guard := none } (v := ?vbr3) rfl (Or.inl ⟨by rfl, ?hybr3⟩) ?restbr3
          case hybr3 => (intro w hSw; (try dsimp only at hSw); go_simp <;> with_reducible rfl)
          try simp only [putW, setZ, setS]
          refine tkW 4 { dst := some 22, op := Op.move (Operand.tmp 3), type := 74, pos := "zsortanyfunc.go:12", after := _, guard := some (3, true) } rfl (Or.inr ⟨by rfl, rfl⟩) ?_
          try simp only [putW, setZ, setS]
          refine tkW 5 { dst := some 23, op := Op.move (Operand.tmp 0), type := 22, pos := "zsortanyfunc.go:12", after := _, guard := some (3, true) } rfl (Or.inr ⟨by rfl, rfl⟩) ?_
          try simp only [putW, setZ, setS]
          refine tkW 6 { dst := some 24, op := Op.move (Operand.tmp 9), type := 3, pos := "zsortanyfunc.go:12", after := _, guard := some (3, true) } rfl (Or.inr ⟨by rfl, rfl⟩) ?_
          try simp only [putW, setZ, setS]
          refine tkW 7 { dst := some 25, op := Op.indexAddr 22 (Operand.tmp 23) (Operand.tmp 24), type := 0, pos := "zsortanyfunc.go:12", after := _, guard := some (3, true) } rfl (Or.inr ⟨by rfl, rfl⟩) ?_
          try simp only [putW, setZ, setS]
          refine tkW 8 { dst := some 26, op := Op.load 27 (Operand.tmp 25), type := 27, pos := "zsortanyfunc.go:12", after := _, guard := some (3, true) } rfl (Or.inr ⟨by rfl, rfl⟩) ?_
          try simp only [putW, setZ, setS]
          refine tkW 9 { dst := some 27, op := Op.move (Operand.tmp 0), type := 22, pos := "zsortanyfunc.go:12", after := _, guard := some (3, true) } rfl (Or.inr ⟨by rfl, rfl⟩) ?_
          try simp only [putW, setZ, setS]
          refine tkW 10 { dst := some 28, op := Op.move (Operand.tmp 9), type := 3, pos := "zsortanyfunc.go:12", after := _, guard := some (3, true) } rfl (Or.inr ⟨by rfl, rfl⟩) ?_
          try simp only [putW, setZ, setS]
          refine tkW 11 { dst := some 29, op := Op.binOp BinOp.sub 3 (Operand.tmp 28) (Operand.const (Value.int IntKind.i64 1)) 3, type := 3, pos := "zsortanyfunc.go:12", after := _, guard := some (3, true) } rfl (Or.inr ⟨by rfl, rfl⟩) ?_
          try simp only [putW, setZ, setS]
          refine tkW 12 { dst := some 30, op := Op.indexAddr 22 (Operand.tmp 27) (Operand.tmp 29), type := 0, pos := "zsortanyfunc.go:12", after := _, guard := some (3, true) } rfl (Or.inr ⟨by rfl, rfl⟩) ?_
          try simp only [putW, setZ, setS]
          refine tkW 13 { dst := some 31, op := Op.load 27 (Operand.tmp 30), type := 27, pos := "zsortanyfunc.go:12", after := _, guard := some (3, true) } rfl (Or.inr ⟨by rfl, rfl⟩) ?_
          try simp only [putW, setZ, setS]
          refine tkW 14 { dst := some 32, op := Op.call { callee := Callee.value (Operand.tmp 22), args := #[Operand.tmp 26, Operand.tmp 31], argTypes := #[27, 27] }, type := 3, pos := "zsortanyfunc.go:12", after := _, guard := some (3, true) } rfl (Or.inr ⟨by rfl, rfl⟩) ?_
          try simp only [putW, setZ, setS]
          refine tkW 15 { dst := some 33, op := Op.binOp BinOp.lss 3 (Operand.tmp 32) (Operand.const (Value.int IntKind.i64 0)) 3, type := 4, pos := "zsortanyfunc.go:12", after := _, guard := some (3, true) } rfl (Or.inr ⟨by rfl, rfl⟩) ?_
          try simp only [putW, setZ, setS]
          refine tkW 16 { dst := some 34, op := Op.pick (Operand.tmp 21) (Operand.tmp 33) (Operand.const (Value.bool false)), type := 4, pos := "zsortanyfunc.go:12", after := _, guard := none } (v := ?vbr16) rfl (Or.inl ⟨by rfl, ?hybr16⟩) ?restbr16
          case hybr16 => (intro w hSw; (try dsimp only at hSw); go_simp <;> with_reducible rfl)
          try simp only [putW, setZ, setS]
          refine wpAnyH_done (by kernel_rfl) ?_ _
          go_wp2
          go_roundg (b - (i + 1))
          case measure => omega
          case rel => exact ⟨i + 1, m', by omega, by omega, by omega, by go_num, (show Hid _ from ⟨HJ.out.1.drew, HJ.out.2.1.2.1.trans HM.out.2.1, Ins.done HJ.out.2.1 (.inl rfl) (by have h2 := HM.out.2.1; have h3 := HL.out; omega), HM.out.2.2.2.1.trans (HJ.out.2.1.2.2.1.mono (by omega) (by omega)), HM.out.2.2.2.2.1.trans HJ.out.2.1.1, HJ.out.2.2.drew⟩)⟩
        · obtain rfl : j = j' + 1 := by omega
          have haj' : a ≤ j' := by omega
          clear hj' hja
          have hln : m'.length = n := by have h1 := HJ.out.2.1.2.1; have h2 := HM.out.2.1; have h3 := HL.out; omega
          have hjl : j' + 1 < m'.length := by omega
          have hjl0 : j' < m'.length := by omega
          have HRG := Lib.hid (fun (W : World) (h : OwnR W base g c m') => And.intro (h.range hjl) (And.intro (h.range hjl0) (And.intro (h.there hjl) (h.there hjl0))))
          have HSE := Lib.hid (show (m'.set (j' + 1) m'[j']).set j' m'[j' + 1] = swp m' j' (j' + 1) from by rw [swp_comm, swp_eq hjl hjl0])
          have HX0 := Lib.hid (List.getElem?_eq_getElem hjl0)
          have HY0 := Lib.hid (List.getElem?_eq_getElem hjl)
          have HSW := Lib.hid (show ∀ hlt : Rx.wv m'[j' + 1] < Rx.wv m'[j'], Ins Rx.wv m (swp m' j' (j' + 1)) a i j' from fun h => HJ.out.2.1.step (by omega) (by omega) (by have h2 := HM.out.2.1; have h3 := HL.out; omega) (List.getElem?_eq_getElem hjl0) (List.getElem?_eq_getElem hjl) h)
          have HDN := Lib.hid (show ¬ Rx.wv m'[j' + 1] < Rx.wv m'[j'] → Srt Rx.wv m' a (i + 1) from fun h => Ins.done HJ.out.2.1 (.inr ⟨j', rfl, fun x y hx hy => by rw [List.getElem?_eq_getElem hjl0] at hx; rw [List.getElem?_eq_getElem hjl] at hy; cases hx; cases hy; omega⟩) (by have h2 := HM.out.2.1; have h3 := HL.out; omega))
          generalize m'[j' + 1] = y at *
          generalize m'[j'] = x at *
          have HLN := Lib.hid hln
          have hj0 : (0 : Int) ≤ (j' : Int) := by omega
          have hj1 : (j' : Int) + 1 < (n : Int) := by omega
          have hj2 : (j' : Int) < (n : Int) := by omega
          have hj3 : (0 : Int) ≤ (j' : Int) + 1 := by omega
          have hw1 : IntKind.i64.wrap (j' : Int) = (j' : Int) := by rw [IntKind.wrap_i64]; omega
          have hgt : (a : Int) < (j' : Int) + 1 := by omega
          clear hln
          obtain ⟨r1, r2, -, -⟩ := HRG.out _ HJ.out.1
          obtain ⟨q, hq⟩ : ∃ q, q = decide (Rx.wv y < Rx.wv x) := ⟨_, rfl⟩
          have hqq : decide (cmpI (Rx.wv y) (Rx.wv x) < 0) = q := by rw [cmp_neg, hq]
          have HQ := Lib.hid hq
          clear hq
          go_wp2_with fail
          refine wp_region_held_drew (S := fun w' => w'.rangeAt g ((j' + 1) * 10) (encRx y) ∧ w'.rangeAt g (j' * 10) (encRx x)) (by kernel_rfl) ?_ (fun hHeldcr => ?_)
          · exact ⟨r1, r2⟩
          refine tkW 0 { dst := some 18, op := Op.move (Operand.tmp 9), type := 3, pos := "zsortanyfunc.go:12", after := _, guard := none } (v := ?vcr0) rfl (Or.inl ⟨by rfl, ?hycr0⟩) ?restcr0
          case hycr0 => (intro w hSw; (try dsimp only at hSw); go_simp <;> with_reducible rfl)
          try simp only [putW, setZ, setS]
          refine tkW 1 { dst := some 19, op := Op.move (Operand.tmp 1), type := 3, pos := "zsortanyfunc.go:12", after := _, guard := none } (v := ?vcr1) rfl (Or.inl ⟨by rfl, ?hycr1⟩) ?restcr1
          case hycr1 => (intro w hSw; (try dsimp only at hSw); go_simp <;> with_reducible rfl)
          try simp only [putW, setZ, setS]
          refine tkW 2 { dst := some 20, op := Op.binOp BinOp.gtr 3 (Operand.tmp 18) (Operand.tmp 19) 3, type := 4, pos := "zsortanyfunc.go:12", after := _, guard := none } (v := ?vcr2) rfl (Or.inl ⟨by rfl, ?hycr2⟩) ?restcr2
          case hycr2 => (intro w hSw; (try dsimp only at hSw); go_simp <;> with_reducible rfl)
          try simp only [putW, setZ, setS]
          refine tkW 3 { dst := some 21, op := Op.move (Operand.tmp 20), type := 4, pos := "zsortanyfunc.go:12", after := _, guard := none } (v := ?vcr3) rfl (Or.inl ⟨by rfl, ?hycr3⟩) ?restcr3
          case hycr3 => (intro w hSw; (try dsimp only at hSw); go_simp <;> with_reducible rfl)
          try simp only [putW, setZ, setS]
          refine tkW 4 { dst := some 22, op := Op.move (Operand.tmp 3), type := 74, pos := "zsortanyfunc.go:12", after := _, guard := some (3, true) } (v := ?vcr4) rfl (Or.inl ⟨by rfl, ?hycr4⟩) ?restcr4
          case hycr4 => (intro w hSw; (try dsimp only at hSw); go_simp <;> with_reducible rfl)
          try simp only [putW, setZ, setS]
          refine tkW 5 { dst := some 23, op := Op.move (Operand.tmp 0), type := 22, pos := "zsortanyfunc.go:12", after := _, guard := some (3, true) } (v := ?vcr5) rfl (Or.inl ⟨by rfl, ?hycr5⟩) ?restcr5
          case hycr5 => (intro w hSw; (try dsimp only at hSw); go_simp <;> with_reducible rfl)
          try simp only [putW, setZ, setS]
          refine tkW 6 { dst := some 24, op := Op.move (Operand.tmp 9), type := 3, pos := "zsortanyfunc.go:12", after := _, guard := some (3, true) } (v := ?vcr6) rfl (Or.inl ⟨by rfl, ?hycr6⟩) ?restcr6
          case hycr6 => (intro w hSw; (try dsimp only at hSw); go_simp <;> with_reducible rfl)
          try simp only [putW, setZ, setS]
          refine tkW 7 { dst := some 25, op := Op.indexAddr 22 (Operand.tmp 23) (Operand.tmp 24), type := 0, pos := "zsortanyfunc.go:12", after := _, guard := some (3, true) } (v := ?vcr7) rfl (Or.inl ⟨by rfl, ?hycr7⟩) ?restcr7
          case hycr7 => (intro w hSw; (try dsimp only at hSw); go_simp <;> with_reducible rfl)
          try simp only [putW, setZ, setS]
          refine tkW 8 { dst := some 26, op := Op.load 27 (Operand.tmp 25), type := 27, pos := "zsortanyfunc.go:12", after := _, guard := some (3, true) } (v := .agg (encRx y).toArray) rfl (Or.inl ⟨by rfl, ?hycr8⟩) ?restcr8
          case hycr8 => (intro w hSw; (try dsimp only at hSw); exact exec_load_mid rfl rfl hSw.1 Try.underlying27 rfl rec_size)
          try simp only [putW, setZ, setS]
          refine tkW 9 { dst := some 27, op := Op.move (Operand.tmp 0), type := 22, pos := "zsortanyfunc.go:12", after := _, guard := some (3, true) } (v := ?vcr9) rfl (Or.inl ⟨by rfl, ?hycr9⟩) ?restcr9
          case hycr9 => (intro w hSw; (try dsimp only at hSw); go_simp <;> with_reducible rfl)
          try simp only [putW, setZ, setS]
          refine tkW 10 { dst := some 28, op := Op.move (Operand.tmp 9), type := 3, pos := "zsortanyfunc.go:12", after := _, guard := some (3, true) } (v := ?vcr10) rfl (Or.inl ⟨by rfl, ?hycr10⟩) ?restcr10
          case hycr10 => (intro w hSw; (try dsimp only at hSw); go_simp <;> with_reducible rfl)
          try simp only [putW, setZ, setS]
          refine tkW 11 { dst := some 29, op := Op.binOp BinOp.sub 3 (Operand.tmp 28) (Operand.const (Value.int IntKind.i64 1)) 3, type := 3, pos := "zsortanyfunc.go:12", after := _, guard := some (3, true) } (v := ?vcr11) rfl (Or.inl ⟨by rfl, ?hycr11⟩) ?restcr11
          case hycr11 => (intro w hSw; (try dsimp only at hSw); go_simp <;> with_reducible rfl)
          try simp only [putW, setZ, setS]
          refine tkW 12 { dst := some 30, op := Op.indexAddr 22 (Operand.tmp 27) (Operand.tmp 29), type := 0, pos := "zsortanyfunc.go:12", after := _, guard := some (3, true) } (v := ?vcr12) rfl (Or.inl ⟨by rfl, ?hycr12⟩) ?restcr12
          case hycr12 => (intro w hSw; (try dsimp only at hSw); go_simp <;> with_reducible rfl)
          try simp only [putW, setZ, setS]
          refine tkW 13 { dst := some 31, op := Op.load 27 (Operand.tmp 30), type := 27, pos := "zsortanyfunc.go:12", after := _, guard := some (3, true) } (v := .agg (encRx x).toArray) rfl (Or.inl ⟨by rfl, ?hycr13⟩) ?restcr13
          case hycr13 => (intro w hSw; (try dsimp only at hSw); exact exec_load_mid rfl rfl hSw.2 Try.underlying27 rfl rec_size)
          try simp only [putW, setZ, setS]
          refine wpAnyH_ready (rs := [14]) (by kernel_rfl) (by simp) ?_
          refine AllReadyH.cons (o := { dst := some 32, op := Op.call { callee := Callee.value (Operand.tmp 22), args := #[Operand.tmp 26, Operand.tmp 31], argTypes := #[27, 27] }, type := 3, pos := "zsortanyfunc.go:12", after := _, guard := some (3, true) }) rfl (fun K hK => ?_) AllReadyH.nil
          go_simp
          refine (wr2_any y x _).mono ?_
          rintro e w3 ⟨rfl, hb3⟩
          have HO3 := Lib.hid (HJ.out.1.drew.keep hb3)
          obtain ⟨r3, r4, -, -⟩ := HRG.out _ HO3.out
          have HB3 := Lib.hid (show Below base w w3 from HJ.out.2.2.drew.trans (hb3.mono (by have := HJ.out.2.2.size; simp; omega)))
          clear hb3
          try go_wp2_with fail
          refine hK.out _ _ ?_ (fun hHeldcr14 => ?_)
          · exact ⟨r3, r4⟩
          clear hK K hHeldcr
          try simp only [Act.put, List.setIfInBounds_toArray, List.set_cons_zero, List.set_cons_succ]
          refine tkW 15 { dst := some 33, op := Op.binOp BinOp.lss 3 (Operand.tmp 32) (Operand.const (Value.int IntKind.i64 0)) 3, type := 4, pos := "zsortanyfunc.go:12", after := _, guard := some (3, true) } (v := ?vcr15) rfl (Or.inl ⟨by rfl, ?hycr15⟩) ?restcr15
          case hycr15 => (intro w hSw; (try dsimp only at hSw); go_simp <;> with_reducible rfl)
          try simp only [putW, setZ, setS]
          refine tkW 16 { dst := some 34, op := Op.pick (Operand.tmp 21) (Operand.tmp 33) (Operand.const (Value.bool false)), type := 4, pos := "zsortanyfunc.go:12", after := _, guard := none } (v := ?vcr16) rfl (Or.inl ⟨by rfl, ?hycr16⟩) ?restcr16
          case hycr16 => (intro w hSw; (try dsimp only at hSw); go_simp <;> with_reducible rfl)
          try simp only [putW, setZ, setS]
          refine wpAnyH_done (by kernel_rfl) ?_ _
          cases q with
          | false =>
            go_wp2
            go_roundg (b - (i + 1))
            case measure => omega
            case rel => exact ⟨i + 1, m', by omega, by omega, by omega, by go_num, (show Hid _ from ⟨HO3.out, HJ.out.2.1.2.1.trans HM.out.2.1, HDN.out (by have := HQ.out; simpa using this.symm), HM.out.2.2.2.1.trans (HJ.out.2.1.2.2.1.mono (by omega) (by omega)), HM.out.2.2.2.2.1.trans HJ.out.2.1.1, HB3.out⟩)⟩
          | true =>
            go_wp2_with fail
            clear hqq
            refine wp_region_held_drew (S := fun _ => True) (by kernel_rfl) ?_ (fun hHelddr => ?_)
            · trivial
            refine tkW 0 { dst := some 37, op := Op.move (Operand.tmp 0), type := 22, pos := "zsortanyfunc.go:13", after := _, guard := none } (v := ?vdr0b1) rfl (Or.inl ⟨by rfl, ?hydr0b1⟩) ?restdr0b1
            case hydr0b1 => (intro w hSw; (try dsimp only at hSw); go_simp <;> with_reducible rfl)
            try simp only [putW, setZ, setS]
            refine tkW 1 { dst := some 38, op := Op.move (Operand.tmp 9), type := 3, pos := "zsortanyfunc.go:13", after := _, guard := none } (v := ?vdr1b2) rfl (Or.inl ⟨by rfl, ?hydr1b2⟩) ?restdr1b2
            case hydr1b2 => (intro w hSw; (try dsimp only at hSw); go_simp <;> with_reducible rfl)
            try simp only [putW, setZ, setS]
            refine tkW 2 { dst := some 39, op := Op.move (Operand.tmp 0), type := 22, pos := "zsortanyfunc.go:13", after := _, guard := none } (v := ?vdr2b3) rfl (Or.inl ⟨by rfl, ?hydr2b3⟩) ?restdr2b3
            case hydr2b3 => (intro w hSw; (try dsimp only at hSw); go_simp <;> with_reducible rfl)
            try simp only [putW, setZ, setS]
            refine tkW 3 { dst := some 40, op := Op.move (Operand.tmp 9), type := 3, pos := "zsortanyfunc.go:13", after := _, guard := none } (v := ?vdr3b4) rfl (Or.inl ⟨by rfl, ?hydr3b4⟩) ?restdr3b4
            case hydr3b4 => (intro w hSw; (try dsimp only at hSw); go_simp <;> with_reducible rfl)
            try simp only [putW, setZ, setS]
            refine tkW 4 { dst := some 41, op := Op.binOp BinOp.sub 3 (Operand.tmp 40) (Operand.const (Value.int IntKind.i64 1)) 3, type := 3, pos := "zsortanyfunc.go:13", after := _, guard := none } (v := ?vdr4b5) rfl (Or.inl ⟨by rfl, ?hydr4b5⟩) ?restdr4b5
            case hydr4b5 => (intro w hSw; (try dsimp only at hSw); go_simp <;> with_reducible rfl)
            try simp only [putW, setZ, setS]
            refine tkW 5 { dst := some 42, op := Op.move (Operand.tmp 0), type := 22, pos := "zsortanyfunc.go:13", after := _, guard := none } (v := ?vdr5b6) rfl (Or.inl ⟨by rfl, ?hydr5b6⟩) ?restdr5b6
            case hydr5b6 => (intro w hSw; (try dsimp only at hSw); go_simp <;> with_reducible rfl)
            try simp only [putW, setZ, setS]
            refine tkW 6 { dst := some 43, op := Op.move (Operand.tmp 9), type := 3, pos := "zsortanyfunc.go:13", after := _, guard := none } (v := ?vdr6b7) rfl (Or.inl ⟨by rfl, ?hydr6b7⟩) ?restdr6b7
            case hydr6b7 => (intro w hSw; (try dsimp only at hSw); go_simp <;> with_reducible rfl)
            try simp only [putW, setZ, setS]
            refine tkW 7 { dst := some 44, op := Op.binOp BinOp.sub 3 (Operand.tmp 43) (Operand.const (Value.int IntKind.i64 1)) 3, type := 3, pos := "zsortanyfunc.go:13", after := _, guard := none } (v := ?vdr7b8) rfl (Or.inl ⟨by rfl, ?hydr7b8⟩) ?restdr7b8
            case hydr7b8 => (intro w hSw; (try dsimp only at hSw); go_simp <;> with_reducible rfl)
            try simp only [putW, setZ, setS]
            refine tkW 8 { dst := some 45, op := Op.indexAddr 22 (Operand.tmp 42) (Operand.tmp 44), type := 0, pos := "zsortanyfunc.go:13", after := _, guard := none } (v := ?vdr8b9) rfl (Or.inl ⟨by rfl, ?hydr8b9⟩) ?restdr8b9
            case hydr8b9 => (intro w hSw; (try dsimp only at hSw); go_simp <;> with_reducible rfl)
            try simp only [putW, setZ, setS]
            refine tkW 10 { dst := some 47, op := Op.move (Operand.tmp 0), type := 22, pos := "zsortanyfunc.go:13", after := _, guard := none } (v := ?vdr10b10) rfl (Or.inl ⟨by rfl, ?hydr10b10⟩) ?restdr10b10
            case hydr10b10 => (intro w hSw; (try dsimp only at hSw); go_simp <;> with_reducible rfl)
            try simp only [putW, setZ, setS]
            refine tkW 11 { dst := some 48, op := Op.move (Operand.tmp 9), type := 3, pos := "zsortanyfunc.go:13", after := _, guard := none } (v := ?vdr11b11) rfl (Or.inl ⟨by rfl, ?hydr11b11⟩) ?restdr11b11
            case hydr11b11 => (intro w hSw; (try dsimp only at hSw); go_simp <;> with_reducible rfl)
            try simp only [putW, setZ, setS]
            refine tkW 12 { dst := some 49, op := Op.indexAddr 22 (Operand.tmp 47) (Operand.tmp 48), type := 0, pos := "zsortanyfunc.go:13", after := _, guard := none } (v := ?vdr12b12) rfl (Or.inl ⟨by rfl, ?hydr12b12⟩) ?restdr12b12
            case hydr12b12 => (intro w hSw; (try dsimp only at hSw); go_simp <;> with_reducible rfl)
            try simp only [putW, setZ, setS]
            refine wpAnyH_ready (rs := [9, 13]) (by kernel_rfl) (by simp) ?_
            refine AllReadyH.cons (o := { dst := some 46, op := Op.load 27 (Operand.tmp 45), type := 27, pos := "zsortanyfunc.go:13", after := _, guard := none }) rfl (fun K hK => ?_) ?_
            · refine step_load_own HO3.out.drew HX0.out _ (by rfl) rfl rfl ?_
              refine hK.out _ _ ?_ (fun hHelddr9b13 => ?_)
              · trivial
              clear hK K hHelddr
              try simp only [Act.put, List.setIfInBounds_toArray, List.set_cons_zero, List.set_cons_succ]
              refine wpAnyH_ready (rs := [13]) (by kernel_rfl) (by simp) ?_
              refine AllReadyH.cons (o := { dst := some 50, op := Op.load 27 (Operand.tmp 49), type := 27, pos := "zsortanyfunc.go:13", after := _, guard := none }) rfl (fun K hK => ?_) AllReadyH.nil
              refine step_load_own HO3.out.drew HY0.out _ (by rfl) rfl rfl ?_
              refine hK.out _ _ ?_ (fun hHelddr13b14 => ?_)
              · trivial
              clear hK K hHelddr9b13
              try simp only [Act.put, List.setIfInBounds_toArray, List.set_cons_zero, List.set_cons_succ]
              refine tkW 14 { dst := some 51, op := Op.indexAddr 22 (Operand.tmp 37) (Operand.tmp 38), type := 0, pos := "zsortanyfunc.go:13", after := _, guard := none } (v := ?vdr14b15) rfl (Or.inl ⟨by rfl, ?hydr14b15⟩) ?restdr14b15
              case hydr14b15 => (intro w hSw; (try dsimp only at hSw); go_simp <;> with_reducible rfl)
              try simp only [putW, setZ, setS]
              refine wpAnyH_ready (rs := [15]) (by kernel_rfl) (by simp) ?_
              refine AllReadyH.cons (o := { dst := none, op := Op.store 27 (Operand.tmp 51) (Operand.tmp 46), type := 0, pos := "zsortanyfunc.go:13", after := _, guard := none }) rfl (fun K hK => ?_) AllReadyH.nil
              refine step_store_own HO3.out.drew hjl x _ _ (by rfl) rfl rfl rfl ?_
              intro w4 ho4 hb4
              refine hK.out _ _ ?_ (fun hHelddr15b16 => ?_)
              · trivial
              clear hK K hHelddr13b14
              try simp only [Act.put, List.setIfInBounds_toArray, List.set_cons_zero, List.set_cons_succ]
              refine tkW 16 { dst := some 52, op := Op.indexAddr 22 (Operand.tmp 39) (Operand.tmp 41), type := 0, pos := "zsortanyfunc.go:13", after := _, guard := none } (v := ?vdr16b17) rfl (Or.inl ⟨by rfl, ?hydr16b17⟩) ?restdr16b17
              case hydr16b17 => (intro w hSw; (try dsimp only at hSw); go_simp <;> with_reducible rfl)
              try simp only [putW, setZ, setS]
              refine wpAnyH_ready (rs := [17]) (by kernel_rfl) (by simp) ?_
              refine AllReadyH.cons (o := { dst := none, op := Op.store 27 (Operand.tmp 52) (Operand.tmp 50), type := 0, pos := "zsortanyfunc.go:13", after := _, guard := none }) rfl (fun K hK => ?_) AllReadyH.nil
              refine step_store_own ho4 (by rw [List.length_set]; exact hjl0) y _ _ (by rfl) rfl rfl rfl ?_
              intro w5 ho5 hb5
              rw [HSE.out] at ho5
              refine hK.out _ _ ?_ (fun hHelddr17b18 => ?_)
              · trivial
              clear hK K hHelddr15b16
              try simp only [Act.put, List.setIfInBounds_toArray, List.set_cons_zero, List.set_cons_succ]
              refine wpAnyH_done (by kernel_rfl) ?_ _
              go_wp2
              go_roundg (j' - a)
              case measure => omega
              case rel => exact ⟨j', swp m' j' (j' + 1), by omega, by omega, by omega, by go_num, (show Hid _ from ⟨ho5, HSW.out (by have := HQ.out; simpa using this.symm), HB3.out.drew.trans (hb4.trans hb5)⟩)⟩
            refine AllReadyH.cons (o := { dst := some 50, op := Op.load 27 (Operand.tmp 49), type := 27, pos := "zsortanyfunc.go:13", after := _, guard := none }) rfl (fun K hK => ?_) ?_
            · refine step_load_own HO3.out.drew HY0.out _ (by rfl) rfl rfl ?_
              refine hK.out _ _ ?_ (fun hHelddr13b19 => ?_)
              · trivial
              clear hK K hHelddr
              try simp only [Act.put, List.setIfInBounds_toArray, List.set_cons_zero, List.set_cons_succ]
              refine wpAnyH_ready (rs := [9]) (by kernel_rfl) (by simp) ?_
              refine AllReadyH.cons (o := { dst := some 46, op := Op.load 27 (Operand.tmp 45), type := 27, pos := "zsortanyfunc.go:13", after := _, guard := none }) rfl (fun K hK => ?_) AllReadyH.nil
              refine step_load_own HO3.out.drew HX0.out _ (by rfl) rfl rfl ?_
              refine hK.out _ _ ?_ (fun hHelddr9b20 => ?_)
              · trivial
              clear hK K hHelddr13b19
              try simp only [Act.put, List.setIfInBounds_toArray, List.set_cons_zero, List.set_cons_succ]
              refine tkW 14 { dst := some 51, op := Op.indexAddr 22 (Operand.tmp 37) (Operand.tmp 38), type := 0, pos := "zsortanyfunc.go:13", after := _, guard := none } (v := ?vdr14b21) rfl (Or.inl ⟨by rfl, ?hydr14b21⟩) ?restdr14b21
              case hydr14b21 => (intro w hSw; (try dsimp only at hSw); go_simp <;> with_reducible rfl)
              try simp only [putW, setZ, setS]
              refine wpAnyH_ready (rs := [15]) (by kernel_rfl) (by simp) ?_
              refine AllReadyH.cons (o := { dst := none, op := Op.store 27 (Operand.tmp 51) (Operand.tmp 46), type := 0, pos := "zsortanyfunc.go:13", after := _, guard := none }) rfl (fun K hK => ?_) AllReadyH.nil
              refine step_store_own HO3.out.drew hjl x _ _ (by rfl) rfl rfl rfl ?_
              intro w4 ho4 hb4
              refine hK.out _ _ ?_ (fun hHelddr15b22 => ?_)
              · trivial
              clear hK K hHelddr9b20
              try simp only [Act.put, List.setIfInBounds_toArray, List.set_cons_zero, List.set_cons_succ]
              refine tkW 16 { dst := some 52, op := Op.indexAddr 22 (Operand.tmp 39) (Operand.tmp 41), type := 0, pos := "zsortanyfunc.go:13", after := _, guard := none } (v := ?vdr16b23) rfl (Or.inl ⟨by rfl, ?hydr16b23⟩) ?restdr16b23
              case hydr16b23 => (intro w hSw; (try dsimp only at hSw); go_simp <;> with_reducible rfl)
              try simp only [putW, setZ, setS]
              refine wpAnyH_ready (rs := [17]) (by kernel_rfl) (by simp) ?_
              refine AllReadyH.cons (o := { dst := none, op := Op.store 27 (Operand.tmp 52) (Operand.tmp 50), type := 0, pos := "zsortanyfunc.go:13", after := _, guard := none }) rfl (fun K hK => ?_) AllReadyH.nil
              refine step_store_own ho4 (by rw [List.length_set]; exact hjl0) y _ _ (by rfl) rfl rfl rfl ?_
              intro w5 ho5 hb5
              rw [HSE.out] at ho5
              refine hK.out _ _ ?_ (fun hHelddr17b24 => ?_)
              · trivial
              clear hK K hHelddr15b22
              try simp only [Act.put, List.setIfInBounds_toArray, List.set_cons_zero, List.set_cons_succ]
              refine wpAnyH_done (by kernel_rfl) ?_ _
              go_wp2
              go_roundg (j' - a)
              case measure => omega
              case rel => exact ⟨j', swp m' j' (j' + 1), by omega, by omega, by omega, by go_num, (show Hid _ from ⟨ho5, HSW.out (by have := HQ.out; simpa using this.symm), HB3.out.drew.trans (hb4.trans hb5)⟩)⟩
            exact AllReadyH.nil
    · have hltz : ¬ (i : Int) < (b : Int) := by omega
      go_wp2
      go_end0
      exact ⟨rfl, m, HM.out.2.1, HM.out.1, (fun p q x y h1 h2 h3 => HM.out.2.2.1 p q x y h1 h2 (by omega)), HM.out.2.2.2.1, HM.out.2.2.2.2.1, HM.out.2.2.2.2.2⟩
end Go.Proofs.Ytmcbnpeihedcaaa
