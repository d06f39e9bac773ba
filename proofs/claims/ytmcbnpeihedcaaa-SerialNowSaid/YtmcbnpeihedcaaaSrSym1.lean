/- slices.symMergeCmpFunc at []api.Rec: a part of one element. -/
import Derived.Test.YtmcbnpeihedcaaaSrSwap
namespace Go.Proofs.Ytmcbnpeihedcaaa
set_option linter.unusedSimpArgs false
open Go Go.RowKit
set_option linter.unusedVariables false
attribute [local go_sem ↓] Go.wp_at_zero Go.wp_at_succ

theorem kAt_wv {l : List Rx} {p : Nat} {x : Rx} (h : l[p]? = some x) : kAt Rx.wv l p = x.wv := kAt_some h

set_option maxRecDepth 100000 in
set_option maxHeartbeats 8000000 in
theorem symup_any (base g c : Nat) (l : List Rx) (a m b : Nat) (x y z : Int) (w : World) (hr : OwnR w base g c l) (hx : x = (a : Int)) (hy : y = (m : Int)) (hz : z = (b : Int)) (hm : m = a + 1) (hab : m < b) (hb : b ≤ l.length) (hn : l.length ≤ 100000) (hbase : base ≤ w.heap.size) (hs : Srt Rx.wv l m b) :
    Calls Try.prog 65 #[.slice (some ⟨g, 0, none⟩) l.length c, .int .i64 x, .int .i64 y, .int .i64 z, .func (.func 31) #[] #[]] w (SortPost base g c l a b w) := by
  subst hx hy hz
  have eg : ∀ args w, (callFunc 31 args).run Try.prog w = .ok (.enter 31 args) w := enters_of Try.func31 (by kernel_rfl) rfl
  obtain ⟨n, hnn⟩ : ∃ n, n = l.length := ⟨_, rfl⟩
  have HL := Lib.hid hnn
  have HR := Lib.hid hr
  have HS := Lib.hid hs
  have HMA := Lib.hid hm
  have HXA := Lib.hid (List.getElem?_eq_getElem (show a < l.length by omega))
  have hq : ((m : Int) - (a : Int) == 1) = true := by rw [beq_iff_eq]; omega
  rw [← hnn] at hb hn ⊢
  generalize l[a] = xa at *
  have ha0 : (0 : Int) ≤ (a : Int) := by omega
  have ha1 : (a : Int) < (n : Int) := by omega
  have ham : a < m := by omega
  clear hr hnn hs hm
  go_enter Try.func65, Try.ntmps65
  go_upto_block 0 with fail
  go_cut [10] (fun s10 wx => ∃ i : Nat, m ≤ i ∧ i ≤ b ∧ s10 = .int .i64 i ∧ Hid ((i = m ∨ kAt Rx.wv l (i - 1) < kAt Rx.wv l a) ∧ (i = b ∨ ¬ kAt Rx.wv l i < kAt Rx.wv l a) ∧ OwnR wx base g c l ∧ Below base w wx))
  case first =>
    go_wp2_with fail
    go_loopg [10, 11] (b - a) (fun gg s10 s11 wr => ∃ (i j : Nat), m ≤ i ∧ i ≤ j ∧ j ≤ b ∧ j - i ≤ gg ∧ s10 = .int .i64 i ∧ s11 = .int .i64 j ∧ Hid ((i = m ∨ kAt Rx.wv l (i - 1) < kAt Rx.wv l a) ∧ (j = b ∨ ¬ kAt Rx.wv l j < kAt Rx.wv l a) ∧ OwnR wr base g c l ∧ Below base w wr))
    case atStart => exact ⟨m, b, by omega, by omega, by omega, by omega, rfl, rfl, .inl rfl, .inl rfl, HR.out, Below.refl _ _⟩
    case round =>
      obtain ⟨i, j, hai, hij, hjb, hg, rfl, rfl, HM⟩ := hrel
      by_cases hlt : i < j
      · have hltz : (i : Int) < (j : Int) := by omega
        obtain ⟨h, hh⟩ : ∃ h, h = (i + j) / 2 := ⟨_, rfl⟩
        have hih : i ≤ h := by omega
        have hhj : h < j := by omega
        have e1 : ((i : Int) + (j : Int)) / 2 = (h : Int) := by omega
        have HH := Lib.hid (List.getElem?_eq_getElem (show h < l.length by have := HL.out; omega))
        generalize l[h] = xh at *
        have r1 := HM.out.2.2.1.at_ HH.out
        have r2 := HM.out.2.2.1.at_ HXA.out
        have h0 : (0 : Int) ≤ (h : Int) := by omega
        have h1 : (h : Int) < (n : Int) := by omega
        obtain ⟨q, hq2⟩ : ∃ q, q = decide (Rx.wv xh < Rx.wv xa) := ⟨_, rfl⟩
        have hqq : decide (cmpI (Rx.wv xh) (Rx.wv xa) < 0) = q := by rw [cmp_neg, hq2]
        have HQ := Lib.hid hq2
        have HKH := Lib.hid (kAt_wv HH.out)
        have HKA := Lib.hid (kAt_wv HXA.out)
        clear hq2 hh
        go_wp2_with fail
        refine wp_region_held_drew (S := fun w' => w'.rangeAt g (h * 10) (encRx xh) ∧ w'.rangeAt g (a * 10) (encRx xa)) (by kernel_rfl) ?_ (fun hHeldbr => ?_)
        · exact ⟨r1, r2⟩
        refine tkW 0 { dst := some 40, op := Op.move (Operand.tmp 4), type := 74, pos := "zsortanyfunc.go:390", after := _, guard := none } (v := ?vbr0) rfl (Or.inl ⟨by rfl, ?hybr0⟩) ?restbr0
        case hybr0 => (intro w hSw; (try dsimp only at hSw); go_simp <;> with_reducible rfl)
        try simp only [putW, setZ, setS]
        refine tkW 1 { dst := some 41, op := Op.move (Operand.tmp 0), type := 22, pos := "zsortanyfunc.go:390", after := _, guard := none } (v := ?vbr1) rfl (Or.inl ⟨by rfl, ?hybr1⟩) ?restbr1
        case hybr1 => (intro w hSw; (try dsimp only at hSw); go_simp <;> with_reducible rfl)
        try simp only [putW, setZ, setS]
        refine tkW 2 { dst := some 42, op := Op.move (Operand.tmp 12), type := 3, pos := "zsortanyfunc.go:390", after := _, guard := none } (v := ?vbr2) rfl (Or.inl ⟨by rfl, ?hybr2⟩) ?restbr2
        case hybr2 => (intro w hSw; (try dsimp only at hSw); go_simp <;> with_reducible rfl)
        try simp only [putW, setZ, setS]
        refine tkW 3 { dst := some 43, op := Op.indexAddr 22 (Operand.tmp 41) (Operand.tmp 42), type := 0, pos := "zsortanyfunc.go:390", after := _, guard := none } (v := ?vbr3) rfl (Or.inl ⟨by rfl, ?hybr3⟩) ?restbr3
        case hybr3 => (intro w hSw; (try dsimp only at hSw); go_simp <;> with_reducible rfl)
        try simp only [putW, setZ, setS]
        refine tkW 4 { dst := some 44, op := Op.load 27 (Operand.tmp 43), type := 27, pos := "zsortanyfunc.go:390", after := _, guard := none } (v := .agg (encRx xh).toArray) rfl (Or.inl ⟨by rfl, ?hybr4⟩) ?restbr4
        case hybr4 => (intro w hSw; (try dsimp only at hSw); exact exec_load_mid rfl rfl hSw.1 Try.underlying27 rfl rec_size)
        try simp only [putW, setZ, setS]
        refine tkW 5 { dst := some 45, op := Op.move (Operand.tmp 0), type := 22, pos := "zsortanyfunc.go:390", after := _, guard := none } (v := ?vbr5) rfl (Or.inl ⟨by rfl, ?hybr5⟩) ?restbr5
        case hybr5 => (intro w hSw; (try dsimp only at hSw); go_simp <;> with_reducible rfl)
        try simp only [putW, setZ, setS]
        refine tkW 6 { dst := some 46, op := Op.move (Operand.tmp 1), type := 3, pos := "zsortanyfunc.go:390", after := _, guard := none } (v := ?vbr6) rfl (Or.inl ⟨by rfl, ?hybr6⟩) ?restbr6
        case hybr6 => (intro w hSw; (try dsimp only at hSw); go_simp <;> with_reducible rfl)
        try simp only [putW, setZ, setS]
        refine tkW 7 { dst := some 47, op := Op.indexAddr 22 (Operand.tmp 45) (Operand.tmp 46), type := 0, pos := "zsortanyfunc.go:390", after := _, guard := none } (v := ?vbr7) rfl (Or.inl ⟨by rfl, ?hybr7⟩) ?restbr7
        case hybr7 => (intro w hSw; (try dsimp only at hSw); go_simp <;> with_reducible rfl)
        try simp only [putW, setZ, setS]
        refine tkW 8 { dst := some 48, op := Op.load 27 (Operand.tmp 47), type := 27, pos := "zsortanyfunc.go:390", after := _, guard := none } (v := .agg (encRx xa).toArray) rfl (Or.inl ⟨by rfl, ?hybr8⟩) ?restbr8
        case hybr8 => (intro w hSw; (try dsimp only at hSw); exact exec_load_mid rfl rfl hSw.2 Try.underlying27 rfl rec_size)
        try simp only [putW, setZ, setS]
        refine wpAnyH_ready (rs := [9]) (by kernel_rfl) (by simp) ?_
        refine AllReadyH.cons (o := { dst := some 49, op := Op.call { callee := Callee.value (Operand.tmp 40), args := #[Operand.tmp 44, Operand.tmp 48], argTypes := #[27, 27] }, type := 3, pos := "zsortanyfunc.go:390", after := _, guard := none }) rfl (fun K hK => ?_) AllReadyH.nil
        go_simp
        refine (wr2_any xh xa _).mono ?_
        rintro e w3 ⟨rfl, hb3⟩
        have HO3 := Lib.hid (HM.out.2.2.1.drew.keep hb3)
        have r3 := HO3.out.at_ HH.out
        have r4 := HO3.out.at_ HXA.out
        have HB3 := Lib.hid (show Below base w w3 from HM.out.2.2.2.drew.trans (hb3.mono (by have := HM.out.2.2.2.size; simp; omega)))
        clear hb3
        try go_wp2_with fail
        refine hK.out _ _ ?_ (fun hHeldbr9 => ?_)
        · exact ⟨r3, r4⟩
        clear hK K hHeldbr
        try simp only [Act.put, List.setIfInBounds_toArray, List.set_cons_zero, List.set_cons_succ]
        refine tkW 10 { dst := some 50, op := Op.binOp BinOp.lss 3 (Operand.tmp 49) (Operand.const (Value.int IntKind.i64 0)) 3, type := 4, pos := "zsortanyfunc.go:390", after := _, guard := none } (v := ?vbr10) rfl (Or.inl ⟨by rfl, ?hybr10⟩) ?restbr10
        case hybr10 => (intro w hSw; (try dsimp only at hSw); go_simp <;> with_reducible rfl)
        try simp only [putW, setZ, setS]
        refine wpAnyH_done (by kernel_rfl) ?_ _
        cases q with
        | true =>
          go_wp2
          go_roundg (j - (h + 1))
          case measure => omega
          case rel => exact ⟨h + 1, j, by omega, by omega, hjb, by omega, by go_num, rfl, (show Hid _ from ⟨.inr (by rw [show h + 1 - 1 = h from by omega, HKH.out, HKA.out]; have := HQ.out; simpa using this.symm), HM.out.2.1, HO3.out, HB3.out⟩)⟩
        | false =>
          go_wp2
          go_roundg (h - i)
          case measure => omega
          case rel => exact ⟨i, h, hai, hih, by omega, by omega, rfl, rfl, (show Hid _ from ⟨HM.out.1, .inr (by rw [HKH.out, HKA.out]; have := HQ.out; simpa using this.symm), HO3.out, HB3.out⟩)⟩
      · obtain rfl : i = j := by omega
        go_wp2
        go_meet
        exact ⟨i, hai, hjb, rfl, HM.out⟩
  case rest =>
    obtain ⟨i, hmi, hib, rfl, HI⟩ := hcut
    have HU := Lib.hid (show MvU Rx.wv l l a a ∧ OwnR wc base g c l ∧ Below base w wc from ⟨MvU.zero l a, HI.out.2.2.1, HI.out.2.2.2⟩)
    have hlow : ∀ k, a ≤ k → k + 1 < i → kAt Rx.wv l (k + 1) < kAt Rx.wv l a := by
      have hs := (srt_iff (by have := HL.out; omega)).1 HS.out
      intro k k1 k2
      have hma := HMA.out
      rcases HI.out.1 with h | h
      · omega
      · by_cases e : k + 1 = i - 1
        · rw [e]; exact h
        · have := hs (k + 1) (i - 1) (by omega) (by omega) (by omega); omega
    have HLOW := Lib.hid hlow
    have hi1 : (0 : Int) ≤ (i : Int) - 1 := by omega
    clear hlow
    go_wp2_with fail
    go_loopg [13] (b - a) (fun gg s13 wr => ∃ (k : Nat) (mm : List Rx), a ≤ k ∧ k + 1 ≤ i ∧ i - k ≤ gg ∧ s13 = .int .i64 k ∧ Hid (MvU Rx.wv l mm a k ∧ OwnR wr base g c mm ∧ Below base w wr))
    case atStart => exact ⟨a, l, by omega, by omega, by omega, rfl, HU.out⟩
    case round =>
      obtain ⟨k, mm, hak, hki, hg, rfl, HM⟩ := hrel
      clear HU
      by_cases hlt : k + 1 < i
      · have hltz : (k : Int) < (i : Int) - 1 := by omega
        have hl : mm.length = n := by have h1 := HM.out.1.2.1; have h2 := HL.out; omega
        have hi1 : k < mm.length := by omega
        have hi2 : k + 1 < mm.length := by omega
        have HX0 := Lib.hid (List.getElem?_eq_getElem hi1)
        have HY0 := Lib.hid (List.getElem?_eq_getElem hi2)
        have HSE := Lib.hid (show (mm.set k mm[k + 1]).set (k + 1) mm[k] = swp mm k (k + 1) from by rw [swp_eq hi1 hi2])
        have HST := Lib.hid (HM.out.1.step hak (by have h2 := HL.out; omega) (HLOW.out k hak hlt))
        generalize mm[k] = u at *
        generalize mm[k + 1] = v at *
        have e1 : (0 : Int) ≤ (k : Int) := by omega
        have e2 : (k : Int) < (n : Int) := by omega
        have e3 : (0 : Int) ≤ (k : Int) + 1 := by omega
        have e4 : (k : Int) + 1 < (n : Int) := by omega
        have e5 : IntKind.i64.wrap ((k : Int) + 1) = (k : Int) + 1 := by rw [IntKind.wrap_i64]; omega
        have e7 : ((k : Int) + 1).toNat = k + 1 := by omega
        clear hl
        go_wp2_with fail
        refine wp_region_held_drew (S := fun _ => True) (by kernel_rfl) ?_ (fun hHeldcr => ?_)
        · trivial
        refine tkW 0 { dst := some 61, op := Op.move (Operand.tmp 0), type := 22, pos := "zsortanyfunc.go:398", after := _, guard := none } (v := ?vcr0b1) rfl (Or.inl ⟨by rfl, ?hycr0b1⟩) ?restcr0b1
        case hycr0b1 => (intro w hSw; (try dsimp only at hSw); go_simp <;> with_reducible rfl)
        try simp only [putW, setZ, setS]
        refine tkW 1 { dst := some 62, op := Op.move (Operand.tmp 13), type := 3, pos := "zsortanyfunc.go:398", after := _, guard := none } (v := ?vcr1b2) rfl (Or.inl ⟨by rfl, ?hycr1b2⟩) ?restcr1b2
        case hycr1b2 => (intro w hSw; (try dsimp only at hSw); go_simp <;> with_reducible rfl)
        try simp only [putW, setZ, setS]
        refine tkW 2 { dst := some 63, op := Op.move (Operand.tmp 0), type := 22, pos := "zsortanyfunc.go:398", after := _, guard := none } (v := ?vcr2b3) rfl (Or.inl ⟨by rfl, ?hycr2b3⟩) ?restcr2b3
        case hycr2b3 => (intro w hSw; (try dsimp only at hSw); go_simp <;> with_reducible rfl)
        try simp only [putW, setZ, setS]
        refine tkW 3 { dst := some 64, op := Op.move (Operand.tmp 13), type := 3, pos := "zsortanyfunc.go:398", after := _, guard := none } (v := ?vcr3b4) rfl (Or.inl ⟨by rfl, ?hycr3b4⟩) ?restcr3b4
        case hycr3b4 => (intro w hSw; (try dsimp only at hSw); go_simp <;> with_reducible rfl)
        try simp only [putW, setZ, setS]
        refine tkW 4 { dst := some 65, op := Op.binOp BinOp.add 3 (Operand.tmp 64) (Operand.const (Value.int IntKind.i64 1)) 3, type := 3, pos := "zsortanyfunc.go:398", after := _, guard := none } (v := ?vcr4b5) rfl (Or.inl ⟨by rfl, ?hycr4b5⟩) ?restcr4b5
        case hycr4b5 => (intro w hSw; (try dsimp only at hSw); go_simp <;> with_reducible rfl)
        try simp only [putW, setZ, setS]
        refine tkW 5 { dst := some 66, op := Op.move (Operand.tmp 0), type := 22, pos := "zsortanyfunc.go:398", after := _, guard := none } (v := ?vcr5b6) rfl (Or.inl ⟨by rfl, ?hycr5b6⟩) ?restcr5b6
        case hycr5b6 => (intro w hSw; (try dsimp only at hSw); go_simp <;> with_reducible rfl)
        try simp only [putW, setZ, setS]
        refine tkW 6 { dst := some 67, op := Op.move (Operand.tmp 13), type := 3, pos := "zsortanyfunc.go:398", after := _, guard := none } (v := ?vcr6b7) rfl (Or.inl ⟨by rfl, ?hycr6b7⟩) ?restcr6b7
        case hycr6b7 => (intro w hSw; (try dsimp only at hSw); go_simp <;> with_reducible rfl)
        try simp only [putW, setZ, setS]
        refine tkW 7 { dst := some 68, op := Op.binOp BinOp.add 3 (Operand.tmp 67) (Operand.const (Value.int IntKind.i64 1)) 3, type := 3, pos := "zsortanyfunc.go:398", after := _, guard := none } (v := ?vcr7b8) rfl (Or.inl ⟨by rfl, ?hycr7b8⟩) ?restcr7b8
        case hycr7b8 => (intro w hSw; (try dsimp only at hSw); go_simp <;> with_reducible rfl)
        try simp only [putW, setZ, setS]
        refine tkW 8 { dst := some 69, op := Op.indexAddr 22 (Operand.tmp 66) (Operand.tmp 68), type := 0, pos := "zsortanyfunc.go:398", after := _, guard := none } (v := ?vcr8b9) rfl (Or.inl ⟨by rfl, ?hycr8b9⟩) ?restcr8b9
        case hycr8b9 => (intro w hSw; (try dsimp only at hSw); go_simp <;> with_reducible rfl)
        try simp only [putW, setZ, setS]
        refine tkW 10 { dst := some 71, op := Op.move (Operand.tmp 0), type := 22, pos := "zsortanyfunc.go:398", after := _, guard := none } (v := ?vcr10b10) rfl (Or.inl ⟨by rfl, ?hycr10b10⟩) ?restcr10b10
        case hycr10b10 => (intro w hSw; (try dsimp only at hSw); go_simp <;> with_reducible rfl)
        try simp only [putW, setZ, setS]
        refine tkW 11 { dst := some 72, op := Op.move (Operand.tmp 13), type := 3, pos := "zsortanyfunc.go:398", after := _, guard := none } (v := ?vcr11b11) rfl (Or.inl ⟨by rfl, ?hycr11b11⟩) ?restcr11b11
        case hycr11b11 => (intro w hSw; (try dsimp only at hSw); go_simp <;> with_reducible rfl)
        try simp only [putW, setZ, setS]
        refine tkW 12 { dst := some 73, op := Op.indexAddr 22 (Operand.tmp 71) (Operand.tmp 72), type := 0, pos := "zsortanyfunc.go:398", after := _, guard := none } (v := ?vcr12b12) rfl (Or.inl ⟨by rfl, ?hycr12b12⟩) ?restcr12b12
        case hycr12b12 => (intro w hSw; (try dsimp only at hSw); go_simp <;> with_reducible rfl)
        try simp only [putW, setZ, setS]
        refine wpAnyH_ready (rs := [9, 13]) (by kernel_rfl) (by simp) ?_
        refine AllReadyH.cons (o := { dst := some 70, op := Op.load 27 (Operand.tmp 69), type := 27, pos := "zsortanyfunc.go:398", after := _, guard := none }) rfl (fun K hK => ?_) ?_
        · refine step_load_own HM.out.2.1.drew HY0.out _ (by rfl) rfl rfl ?_
          refine hK.out _ _ ?_ (fun hHeldcr9b13 => ?_)
          · trivial
          clear hK K hHeldcr
          try simp only [Act.put, List.setIfInBounds_toArray, List.set_cons_zero, List.set_cons_succ]
          refine wpAnyH_ready (rs := [13]) (by kernel_rfl) (by simp) ?_
          refine AllReadyH.cons (o := { dst := some 74, op := Op.load 27 (Operand.tmp 73), type := 27, pos := "zsortanyfunc.go:398", after := _, guard := none }) rfl (fun K hK => ?_) AllReadyH.nil
          refine step_load_own HM.out.2.1.drew HX0.out _ (by rfl) rfl rfl ?_
          refine hK.out _ _ ?_ (fun hHeldcr13b14 => ?_)
          · trivial
          clear hK K hHeldcr9b13
          try simp only [Act.put, List.setIfInBounds_toArray, List.set_cons_zero, List.set_cons_succ]
          refine tkW 14 { dst := some 75, op := Op.indexAddr 22 (Operand.tmp 61) (Operand.tmp 62), type := 0, pos := "zsortanyfunc.go:398", after := _, guard := none } (v := ?vcr14b15) rfl (Or.inl ⟨by rfl, ?hycr14b15⟩) ?restcr14b15
          case hycr14b15 => (intro w hSw; (try dsimp only at hSw); go_simp <;> with_reducible rfl)
          try simp only [putW, setZ, setS]
          refine wpAnyH_ready (rs := [15]) (by kernel_rfl) (by simp) ?_
          refine AllReadyH.cons (o := { dst := none, op := Op.store 27 (Operand.tmp 75) (Operand.tmp 70), type := 0, pos := "zsortanyfunc.go:398", after := _, guard := none }) rfl (fun K hK => ?_) AllReadyH.nil
          refine step_store_own HM.out.2.1.drew hi1 v _ _ (by rfl) rfl rfl rfl ?_
          intro w4 ho4 hb4
          refine hK.out _ _ ?_ (fun hHeldcr15b16 => ?_)
          · trivial
          clear hK K hHeldcr13b14
          try simp only [Act.put, List.setIfInBounds_toArray, List.set_cons_zero, List.set_cons_succ]
          refine tkW 16 { dst := some 76, op := Op.indexAddr 22 (Operand.tmp 63) (Operand.tmp 65), type := 0, pos := "zsortanyfunc.go:398", after := _, guard := none } (v := ?vcr16b17) rfl (Or.inl ⟨by rfl, ?hycr16b17⟩) ?restcr16b17
          case hycr16b17 => (intro w hSw; (try dsimp only at hSw); go_simp <;> with_reducible rfl)
          try simp only [putW, setZ, setS]
          refine wpAnyH_ready (rs := [17]) (by kernel_rfl) (by simp) ?_
          refine AllReadyH.cons (o := { dst := none, op := Op.store 27 (Operand.tmp 76) (Operand.tmp 74), type := 0, pos := "zsortanyfunc.go:398", after := _, guard := none }) rfl (fun K hK => ?_) AllReadyH.nil
          refine step_store_own ho4 (by rw [List.length_set]; exact hi2) u _ _ (by rfl) rfl rfl rfl ?_
          intro w5 ho5 hb5
          rw [HSE.out] at ho5
          refine hK.out _ _ ?_ (fun hHeldcr17b18 => ?_)
          · trivial
          clear hK K hHeldcr15b16
          try simp only [Act.put, List.setIfInBounds_toArray, List.set_cons_zero, List.set_cons_succ]
          refine wpAnyH_done (by kernel_rfl) ?_ _
          clear e5 e7
          go_wp2
          go_roundg (i - (k + 1))
          case measure => omega
          case rel => exact ⟨k + 1, swp mm k (k + 1), by omega, by omega, by omega, by go_num, (show Hid _ from ⟨HST.out, ho5, HM.out.2.2.drew.trans (hb4.trans hb5)⟩)⟩
        refine AllReadyH.cons (o := { dst := some 74, op := Op.load 27 (Operand.tmp 73), type := 27, pos := "zsortanyfunc.go:398", after := _, guard := none }) rfl (fun K hK => ?_) ?_
        · refine step_load_own HM.out.2.1.drew HX0.out _ (by rfl) rfl rfl ?_
          refine hK.out _ _ ?_ (fun hHeldcr13b19 => ?_)
          · trivial
          clear hK K hHeldcr
          try simp only [Act.put, List.setIfInBounds_toArray, List.set_cons_zero, List.set_cons_succ]
          refine wpAnyH_ready (rs := [9]) (by kernel_rfl) (by simp) ?_
          refine AllReadyH.cons (o := { dst := some 70, op := Op.load 27 (Operand.tmp 69), type := 27, pos := "zsortanyfunc.go:398", after := _, guard := none }) rfl (fun K hK => ?_) AllReadyH.nil
          refine step_load_own HM.out.2.1.drew HY0.out _ (by rfl) rfl rfl ?_
          refine hK.out _ _ ?_ (fun hHeldcr9b20 => ?_)
          · trivial
          clear hK K hHeldcr13b19
          try simp only [Act.put, List.setIfInBounds_toArray, List.set_cons_zero, List.set_cons_succ]
          refine tkW 14 { dst := some 75, op := Op.indexAddr 22 (Operand.tmp 61) (Operand.tmp 62), type := 0, pos := "zsortanyfunc.go:398", after := _, guard := none } (v := ?vcr14b21) rfl (Or.inl ⟨by rfl, ?hycr14b21⟩) ?restcr14b21
          case hycr14b21 => (intro w hSw; (try dsimp only at hSw); go_simp <;> with_reducible rfl)
          try simp only [putW, setZ, setS]
          refine wpAnyH_ready (rs := [15]) (by kernel_rfl) (by simp) ?_
          refine AllReadyH.cons (o := { dst := none, op := Op.store 27 (Operand.tmp 75) (Operand.tmp 70), type := 0, pos := "zsortanyfunc.go:398", after := _, guard := none }) rfl (fun K hK => ?_) AllReadyH.nil
          refine step_store_own HM.out.2.1.drew hi1 v _ _ (by rfl) rfl rfl rfl ?_
          intro w4 ho4 hb4
          refine hK.out _ _ ?_ (fun hHeldcr15b22 => ?_)
          · trivial
          clear hK K hHeldcr9b20
          try simp only [Act.put, List.setIfInBounds_toArray, List.set_cons_zero, List.set_cons_succ]
          refine tkW 16 { dst := some 76, op := Op.indexAddr 22 (Operand.tmp 63) (Operand.tmp 65), type := 0, pos := "zsortanyfunc.go:398", after := _, guard := none } (v := ?vcr16b23) rfl (Or.inl ⟨by rfl, ?hycr16b23⟩) ?restcr16b23
          case hycr16b23 => (intro w hSw; (try dsimp only at hSw); go_simp <;> with_reducible rfl)
          try simp only [putW, setZ, setS]
          refine wpAnyH_ready (rs := [17]) (by kernel_rfl) (by simp) ?_
          refine AllReadyH.cons (o := { dst := none, op := Op.store 27 (Operand.tmp 76) (Operand.tmp 74), type := 0, pos := "zsortanyfunc.go:398", after := _, guard := none }) rfl (fun K hK => ?_) AllReadyH.nil
          refine step_store_own ho4 (by rw [List.length_set]; exact hi2) u _ _ (by rfl) rfl rfl rfl ?_
          intro w5 ho5 hb5
          rw [HSE.out] at ho5
          refine hK.out _ _ ?_ (fun hHeldcr17b24 => ?_)
          · trivial
          clear hK K hHeldcr15b22
          try simp only [Act.put, List.setIfInBounds_toArray, List.set_cons_zero, List.set_cons_succ]
          refine wpAnyH_done (by kernel_rfl) ?_ _
          clear e5 e7
          go_wp2
          go_roundg (i - (k + 1))
          case measure => omega
          case rel => exact ⟨k + 1, swp mm k (k + 1), by omega, by omega, by omega, by go_num, (show Hid _ from ⟨HST.out, ho5, HM.out.2.2.drew.trans (hb4.trans hb5)⟩)⟩
        exact AllReadyH.nil
      · have hltz : ¬ (k : Int) < (i : Int) - 1 := by omega
        obtain rfl : k = i - 1 := by omega
        go_wp2
        go_end0
        obtain ⟨r1, r2, r3⟩ := mrg1 HM.out.1 (by have := HMA.out; omega) hib (by have := HL.out; omega) (by have := HMA.out; rw [← this]; exact HS.out) (by have := HMA.out; rcases HI.out.1 with h | h; exact .inl (by omega); exact .inr h) (by rcases HI.out.2.1 with h | h; exact .inl h; exact .inr (by omega))
        exact ⟨rfl, mm, HM.out.1.2.1, HM.out.2.1, r1, r2, r3, HM.out.2.2⟩
end Go.Proofs.Ytmcbnpeihedcaaa
