/- slices.swapRangeCmpFunc, rotateCmpFunc at []api.Rec. -/
import Derived.Test.YtmcbnpeihedcaaaSrIns
import Derived.Test.YtmcbnpeihedcaaaSrMerge2
namespace Go.Proofs.Ytmcbnpeihedcaaa
set_option linter.unusedSimpArgs false
open Go Go.RowKit
set_option linter.unusedVariables false
attribute [local go_sem ↓] Go.wp_at_zero Go.wp_at_succ

/-- What an exchange hands back: the row in whatever relation R to what it was. -/
def RelPost (base g c : Nat) (l : List Rx) (R : List Rx → Prop) (w : World) (e : Ending) (w' : World) : Prop :=
  e = .returned (.tuple #[]) ∧ ∃ l' : List Rx, l'.length = l.length ∧ R l' ∧ OwnR w' base g c l' ∧ Below base w w'

set_option maxRecDepth 100000 in
set_option maxHeartbeats 4000000 in
theorem swapr_any (base g c : Nat) (l : List Rx) (a b k : Nat) (x y z : Int) (f : Value) (w : World) (hr : OwnR w base g c l) (hx : x = (a : Int)) (hy : y = (b : Int)) (hz : z = (k : Int)) (hab : a + k ≤ b) (hb : b + k ≤ l.length) (hn : l.length ≤ 100000) :
    Calls Try.prog 83 #[.slice (some ⟨g, 0, none⟩) l.length c, .int .i64 x, .int .i64 y, .int .i64 z, f] w (RelPost base g c l (fun l' => SwR l l' a b k) w) := by
  subst hx hy hz
  obtain ⟨n, hnn⟩ : ∃ n, n = l.length := ⟨_, rfl⟩
  have HI := Lib.hid (show SwR l l a b 0 ∧ OwnR w base g c l ∧ Below base w w from ⟨SwR.zero l a b, hr, Below.refl _ _⟩)
  have HL := Lib.hid hnn
  rw [← hnn] at hb hn ⊢
  clear hr hnn
  go_enter Try.func83, Try.ntmps83
  go_wp2_with fail
  go_loopg [10] k (fun gg s10 wr => ∃ (i : Nat) (m : List Rx), i ≤ k ∧ k - i ≤ gg ∧ s10 = .int .i64 i ∧ Hid (SwR l m a b i ∧ OwnR wr base g c m ∧ Below base w wr))
  case atStart => exact ⟨0, l, by omega, by omega, by go_num, HI.out⟩
  case round =>
    obtain ⟨i, m, hik, hg, rfl, HM⟩ := hrel
    clear HI
    by_cases hlt : i < k
    · have hltz : (i : Int) < (k : Int) := by omega
      have hl : m.length = n := by have h1 := HM.out.1.1; have h2 := HL.out; omega
      have hi1 : a + i < m.length := by omega
      have hi2 : b + i < m.length := by omega
      have HLM := Lib.hid hl
      have HX0 := Lib.hid (List.getElem?_eq_getElem hi1)
      have HY0 := Lib.hid (List.getElem?_eq_getElem hi2)
      have HSE := Lib.hid (show (m.set (a + i) m[b + i]).set (b + i) m[a + i] = swp m (a + i) (b + i) from by rw [swp_eq hi1 hi2])
      have HST := Lib.hid (show SwR l (swp m (a + i) (b + i)) a b (i + 1) from HM.out.1.step (by omega) (by have h1 := HM.out.1.1; have h2 := HL.out; omega))
      generalize m[a + i] = u at *
      generalize m[b + i] = v at *
      have e1 : (0 : Int) ≤ (a : Int) + (i : Int) := by omega
      have e2 : (a : Int) + (i : Int) < (n : Int) := by omega
      have e3 : (0 : Int) ≤ (b : Int) + (i : Int) := by omega
      have e4 : (b : Int) + (i : Int) < (n : Int) := by omega
      have e5 : IntKind.i64.wrap ((a : Int) + (i : Int)) = (a : Int) + (i : Int) := by rw [IntKind.wrap_i64]; omega
      have e6 : IntKind.i64.wrap ((b : Int) + (i : Int)) = (b : Int) + (i : Int) := by rw [IntKind.wrap_i64]; omega
      have e7 : ((a : Int) + (i : Int)).toNat = a + i := by omega
      have e8 : ((b : Int) + (i : Int)).toNat = b + i := by omega
      clear hl
      go_wp2_with fail
      refine wp_region_held_drew (S := fun _ => True) (by kernel_rfl) ?_ (fun hHeldbr => ?_)
      · trivial
      refine tkW 0 { dst := some 16, op := Op.move (Operand.tmp 0), type := 22, pos := "zsortanyfunc.go:331", after := _, guard := none } (v := ?vbr0b1) rfl (Or.inl ⟨by rfl, ?hybr0b1⟩) ?restbr0b1
      case hybr0b1 => (intro w hSw; (try dsimp only at hSw); go_simp <;> with_reducible rfl)
      try simp only [putW, setZ, setS]
      refine tkW 1 { dst := some 17, op := Op.move (Operand.tmp 1), type := 3, pos := "zsortanyfunc.go:331", after := _, guard := none } (v := ?vbr1b2) rfl (Or.inl ⟨by rfl, ?hybr1b2⟩) ?restbr1b2
      case hybr1b2 => (intro w hSw; (try dsimp only at hSw); go_simp <;> with_reducible rfl)
      try simp only [putW, setZ, setS]
      refine tkW 2 { dst := some 18, op := Op.move (Operand.tmp 10), type := 3, pos := "zsortanyfunc.go:331", after := _, guard := none } (v := ?vbr2b3) rfl (Or.inl ⟨by rfl, ?hybr2b3⟩) ?restbr2b3
      case hybr2b3 => (intro w hSw; (try dsimp only at hSw); go_simp <;> with_reducible rfl)
      try simp only [putW, setZ, setS]
      refine tkW 3 { dst := some 19, op := Op.binOp BinOp.add 3 (Operand.tmp 17) (Operand.tmp 18) 3, type := 3, pos := "zsortanyfunc.go:331", after := _, guard := none } (v := ?vbr3b4) rfl (Or.inl ⟨by rfl, ?hybr3b4⟩) ?restbr3b4
      case hybr3b4 => (intro w hSw; (try dsimp only at hSw); go_simp <;> with_reducible rfl)
      try simp only [putW, setZ, setS]
      refine tkW 4 { dst := some 20, op := Op.move (Operand.tmp 0), type := 22, pos := "zsortanyfunc.go:331", after := _, guard := none } (v := ?vbr4b5) rfl (Or.inl ⟨by rfl, ?hybr4b5⟩) ?restbr4b5
      case hybr4b5 => (intro w hSw; (try dsimp only at hSw); go_simp <;> with_reducible rfl)
      try simp only [putW, setZ, setS]
      refine tkW 5 { dst := some 21, op := Op.move (Operand.tmp 2), type := 3, pos := "zsortanyfunc.go:331", after := _, guard := none } (v := ?vbr5b6) rfl (Or.inl ⟨by rfl, ?hybr5b6⟩) ?restbr5b6
      case hybr5b6 => (intro w hSw; (try dsimp only at hSw); go_simp <;> with_reducible rfl)
      try simp only [putW, setZ, setS]
      refine tkW 6 { dst := some 22, op := Op.move (Operand.tmp 10), type := 3, pos := "zsortanyfunc.go:331", after := _, guard := none } (v := ?vbr6b7) rfl (Or.inl ⟨by rfl, ?hybr6b7⟩) ?restbr6b7
      case hybr6b7 => (intro w hSw; (try dsimp only at hSw); go_simp <;> with_reducible rfl)
      try simp only [putW, setZ, setS]
      refine tkW 7 { dst := some 23, op := Op.binOp BinOp.add 3 (Operand.tmp 21) (Operand.tmp 22) 3, type := 3, pos := "zsortanyfunc.go:331", after := _, guard := none } (v := ?vbr7b8) rfl (Or.inl ⟨by rfl, ?hybr7b8⟩) ?restbr7b8
      case hybr7b8 => (intro w hSw; (try dsimp only at hSw); go_simp <;> with_reducible rfl)
      try simp only [putW, setZ, setS]
      refine tkW 8 { dst := some 24, op := Op.move (Operand.tmp 0), type := 22, pos := "zsortanyfunc.go:331", after := _, guard := none } (v := ?vbr8b9) rfl (Or.inl ⟨by rfl, ?hybr8b9⟩) ?restbr8b9
      case hybr8b9 => (intro w hSw; (try dsimp only at hSw); go_simp <;> with_reducible rfl)
      try simp only [putW, setZ, setS]
      refine tkW 9 { dst := some 25, op := Op.move (Operand.tmp 2), type := 3, pos := "zsortanyfunc.go:331", after := _, guard := none } (v := ?vbr9b10) rfl (Or.inl ⟨by rfl, ?hybr9b10⟩) ?restbr9b10
      case hybr9b10 => (intro w hSw; (try dsimp only at hSw); go_simp <;> with_reducible rfl)
      try simp only [putW, setZ, setS]
      refine tkW 10 { dst := some 26, op := Op.move (Operand.tmp 10), type := 3, pos := "zsortanyfunc.go:331", after := _, guard := none } (v := ?vbr10b11) rfl (Or.inl ⟨by rfl, ?hybr10b11⟩) ?restbr10b11
      case hybr10b11 => (intro w hSw; (try dsimp only at hSw); go_simp <;> with_reducible rfl)
      try simp only [putW, setZ, setS]
      refine tkW 11 { dst := some 27, op := Op.binOp BinOp.add 3 (Operand.tmp 25) (Operand.tmp 26) 3, type := 3, pos := "zsortanyfunc.go:331", after := _, guard := none } (v := ?vbr11b12) rfl (Or.inl ⟨by rfl, ?hybr11b12⟩) ?restbr11b12
      case hybr11b12 => (intro w hSw; (try dsimp only at hSw); go_simp <;> with_reducible rfl)
      try simp only [putW, setZ, setS]
      refine tkW 12 { dst := some 28, op := Op.indexAddr 22 (Operand.tmp 24) (Operand.tmp 27), type := 0, pos := "zsortanyfunc.go:331", after := _, guard := none } (v := ?vbr12b13) rfl (Or.inl ⟨by rfl, ?hybr12b13⟩) ?restbr12b13
      case hybr12b13 => (intro w hSw; (try dsimp only at hSw); go_simp <;> with_reducible rfl)
      try simp only [putW, setZ, setS]
      refine tkW 14 { dst := some 30, op := Op.move (Operand.tmp 0), type := 22, pos := "zsortanyfunc.go:331", after := _, guard := none } (v := ?vbr14b14) rfl (Or.inl ⟨by rfl, ?hybr14b14⟩) ?restbr14b14
      case hybr14b14 => (intro w hSw; (try dsimp only at hSw); go_simp <;> with_reducible rfl)
      try simp only [putW, setZ, setS]
      refine tkW 15 { dst := some 31, op := Op.move (Operand.tmp 1), type := 3, pos := "zsortanyfunc.go:331", after := _, guard := none } (v := ?vbr15b15) rfl (Or.inl ⟨by rfl, ?hybr15b15⟩) ?restbr15b15
      case hybr15b15 => (intro w hSw; (try dsimp only at hSw); go_simp <;> with_reducible rfl)
      try simp only [putW, setZ, setS]
      refine tkW 16 { dst := some 32, op := Op.move (Operand.tmp 10), type := 3, pos := "zsortanyfunc.go:331", after := _, guard := none } (v := ?vbr16b16) rfl (Or.inl ⟨by rfl, ?hybr16b16⟩) ?restbr16b16
      case hybr16b16 => (intro w hSw; (try dsimp only at hSw); go_simp <;> with_reducible rfl)
      try simp only [putW, setZ, setS]
      refine tkW 17 { dst := some 33, op := Op.binOp BinOp.add 3 (Operand.tmp 31) (Operand.tmp 32) 3, type := 3, pos := "zsortanyfunc.go:331", after := _, guard := none } (v := ?vbr17b17) rfl (Or.inl ⟨by rfl, ?hybr17b17⟩) ?restbr17b17
      case hybr17b17 => (intro w hSw; (try dsimp only at hSw); go_simp <;> with_reducible rfl)
      try simp only [putW, setZ, setS]
      refine tkW 18 { dst := some 34, op := Op.indexAddr 22 (Operand.tmp 30) (Operand.tmp 33), type := 0, pos := "zsortanyfunc.go:331", after := _, guard := none } (v := ?vbr18b18) rfl (Or.inl ⟨by rfl, ?hybr18b18⟩) ?restbr18b18
      case hybr18b18 => (intro w hSw; (try dsimp only at hSw); go_simp <;> with_reducible rfl)
      try simp only [putW, setZ, setS]
      refine wpAnyH_ready (rs := [13, 19]) (by kernel_rfl) (by simp) ?_
      refine AllReadyH.cons (o := { dst := some 29, op := Op.load 27 (Operand.tmp 28), type := 27, pos := "zsortanyfunc.go:331", after := _, guard := none }) rfl (fun K hK => ?_) ?_
      · refine step_load_own HM.out.2.1.drew HY0.out _ (by rfl) rfl rfl ?_
        refine hK.out _ _ ?_ (fun hHeldbr13b19 => ?_)
        · trivial
        clear hK K hHeldbr
        try simp only [Act.put, List.setIfInBounds_toArray, List.set_cons_zero, List.set_cons_succ]
        refine wpAnyH_ready (rs := [19]) (by kernel_rfl) (by simp) ?_
        refine AllReadyH.cons (o := { dst := some 35, op := Op.load 27 (Operand.tmp 34), type := 27, pos := "zsortanyfunc.go:331", after := _, guard := none }) rfl (fun K hK => ?_) AllReadyH.nil
        refine step_load_own HM.out.2.1.drew HX0.out _ (by rfl) rfl rfl ?_
        refine hK.out _ _ ?_ (fun hHeldbr19b20 => ?_)
        · trivial
        clear hK K hHeldbr13b19
        try simp only [Act.put, List.setIfInBounds_toArray, List.set_cons_zero, List.set_cons_succ]
        refine tkW 20 { dst := some 36, op := Op.indexAddr 22 (Operand.tmp 16) (Operand.tmp 19), type := 0, pos := "zsortanyfunc.go:331", after := _, guard := none } (v := ?vbr20b21) rfl (Or.inl ⟨by rfl, ?hybr20b21⟩) ?restbr20b21
        case hybr20b21 => (intro w hSw; (try dsimp only at hSw); go_simp <;> with_reducible rfl)
        try simp only [putW, setZ, setS]
        refine wpAnyH_ready (rs := [21]) (by kernel_rfl) (by simp) ?_
        refine AllReadyH.cons (o := { dst := none, op := Op.store 27 (Operand.tmp 36) (Operand.tmp 29), type := 0, pos := "zsortanyfunc.go:331", after := _, guard := none }) rfl (fun K hK => ?_) AllReadyH.nil
        refine step_store_own HM.out.2.1.drew hi1 v _ _ (by rfl) rfl rfl rfl ?_
        intro w4 ho4 hb4
        refine hK.out _ _ ?_ (fun hHeldbr21b22 => ?_)
        · trivial
        clear hK K hHeldbr19b20
        try simp only [Act.put, List.setIfInBounds_toArray, List.set_cons_zero, List.set_cons_succ]
        refine tkW 22 { dst := some 37, op := Op.indexAddr 22 (Operand.tmp 20) (Operand.tmp 23), type := 0, pos := "zsortanyfunc.go:331", after := _, guard := none } (v := ?vbr22b23) rfl (Or.inl ⟨by rfl, ?hybr22b23⟩) ?restbr22b23
        case hybr22b23 => (intro w hSw; (try dsimp only at hSw); go_simp <;> with_reducible rfl)
        try simp only [putW, setZ, setS]
        refine wpAnyH_ready (rs := [23]) (by kernel_rfl) (by simp) ?_
        refine AllReadyH.cons (o := { dst := none, op := Op.store 27 (Operand.tmp 37) (Operand.tmp 35), type := 0, pos := "zsortanyfunc.go:331", after := _, guard := none }) rfl (fun K hK => ?_) AllReadyH.nil
        refine step_store_own ho4 (by rw [List.length_set]; exact hi2) u _ _ (by rfl) rfl rfl rfl ?_
        intro w5 ho5 hb5
        rw [HSE.out] at ho5
        refine hK.out _ _ ?_ (fun hHeldbr23b24 => ?_)
        · trivial
        clear hK K hHeldbr21b22
        try simp only [Act.put, List.setIfInBounds_toArray, List.set_cons_zero, List.set_cons_succ]
        refine wpAnyH_done (by kernel_rfl) ?_ _
        clear e5 e6
        go_wp2
        go_roundg (k - (i + 1))
        case measure => omega
        case rel => exact ⟨i + 1, swp m (a + i) (b + i), by omega, by omega, by go_num, (show Hid _ from ⟨HST.out, ho5, HM.out.2.2.drew.trans (hb4.trans hb5)⟩)⟩
      refine AllReadyH.cons (o := { dst := some 35, op := Op.load 27 (Operand.tmp 34), type := 27, pos := "zsortanyfunc.go:331", after := _, guard := none }) rfl (fun K hK => ?_) ?_
      · refine step_load_own HM.out.2.1.drew HX0.out _ (by rfl) rfl rfl ?_
        refine hK.out _ _ ?_ (fun hHeldbr19b25 => ?_)
        · trivial
        clear hK K hHeldbr
        try simp only [Act.put, List.setIfInBounds_toArray, List.set_cons_zero, List.set_cons_succ]
        refine wpAnyH_ready (rs := [13]) (by kernel_rfl) (by simp) ?_
        refine AllReadyH.cons (o := { dst := some 29, op := Op.load 27 (Operand.tmp 28), type := 27, pos := "zsortanyfunc.go:331", after := _, guard := none }) rfl (fun K hK => ?_) AllReadyH.nil
        refine step_load_own HM.out.2.1.drew HY0.out _ (by rfl) rfl rfl ?_
        refine hK.out _ _ ?_ (fun hHeldbr13b26 => ?_)
        · trivial
        clear hK K hHeldbr19b25
        try simp only [Act.put, List.setIfInBounds_toArray, List.set_cons_zero, List.set_cons_succ]
        refine tkW 20 { dst := some 36, op := Op.indexAddr 22 (Operand.tmp 16) (Operand.tmp 19), type := 0, pos := "zsortanyfunc.go:331", after := _, guard := none } (v := ?vbr20b27) rfl (Or.inl ⟨by rfl, ?hybr20b27⟩) ?restbr20b27
        case hybr20b27 => (intro w hSw; (try dsimp only at hSw); go_simp <;> with_reducible rfl)
        try simp only [putW, setZ, setS]
        refine wpAnyH_ready (rs := [21]) (by kernel_rfl) (by simp) ?_
        refine AllReadyH.cons (o := { dst := none, op := Op.store 27 (Operand.tmp 36) (Operand.tmp 29), type := 0, pos := "zsortanyfunc.go:331", after := _, guard := none }) rfl (fun K hK => ?_) AllReadyH.nil
        refine step_store_own HM.out.2.1.drew hi1 v _ _ (by rfl) rfl rfl rfl ?_
        intro w4 ho4 hb4
        refine hK.out _ _ ?_ (fun hHeldbr21b28 => ?_)
        · trivial
        clear hK K hHeldbr13b26
        try simp only [Act.put, List.setIfInBounds_toArray, List.set_cons_zero, List.set_cons_succ]
        refine tkW 22 { dst := some 37, op := Op.indexAddr 22 (Operand.tmp 20) (Operand.tmp 23), type := 0, pos := "zsortanyfunc.go:331", after := _, guard := none } (v := ?vbr22b29) rfl (Or.inl ⟨by rfl, ?hybr22b29⟩) ?restbr22b29
        case hybr22b29 => (intro w hSw; (try dsimp only at hSw); go_simp <;> with_reducible rfl)
        try simp only [putW, setZ, setS]
        refine wpAnyH_ready (rs := [23]) (by kernel_rfl) (by simp) ?_
        refine AllReadyH.cons (o := { dst := none, op := Op.store 27 (Operand.tmp 37) (Operand.tmp 35), type := 0, pos := "zsortanyfunc.go:331", after := _, guard := none }) rfl (fun K hK => ?_) AllReadyH.nil
        refine step_store_own ho4 (by rw [List.length_set]; exact hi2) u _ _ (by rfl) rfl rfl rfl ?_
        intro w5 ho5 hb5
        rw [HSE.out] at ho5
        refine hK.out _ _ ?_ (fun hHeldbr23b30 => ?_)
        · trivial
        clear hK K hHeldbr21b28
        try simp only [Act.put, List.setIfInBounds_toArray, List.set_cons_zero, List.set_cons_succ]
        refine wpAnyH_done (by kernel_rfl) ?_ _
        clear e5 e6
        go_wp2
        go_roundg (k - (i + 1))
        case measure => omega
        case rel => exact ⟨i + 1, swp m (a + i) (b + i), by omega, by omega, by go_num, (show Hid _ from ⟨HST.out, ho5, HM.out.2.2.drew.trans (hb4.trans hb5)⟩)⟩
      exact AllReadyH.nil
    · obtain rfl : i = k := by omega
      go_wp2
      go_end0
      exact ⟨rfl, m, HM.out.1.1, HM.out.1, HM.out.2.1, HM.out.2.2⟩

set_option maxRecDepth 100000 in
set_option maxHeartbeats 4000000 in
theorem rotate_any (base g c : Nat) (l : List Rx) (a m b : Nat) (x y z : Int) (f : Value) (w : World) (hr : OwnR w base g c l) (hx : x = (a : Int)) (hy : y = (m : Int)) (hz : z = (b : Int)) (ham : a < m) (hmb : m < b) (hb : b ≤ l.length) (hn : l.length ≤ 100000) :
    Calls Try.prog 78 #[.slice (some ⟨g, 0, none⟩) l.length c, .int .i64 x, .int .i64 y, .int .i64 z, f] w (RelPost base g c l (fun l' => RotL l l' a m b) w) := by
  subst hx hy hz
  obtain ⟨n, hnn⟩ : ∃ n, n = l.length := ⟨_, rfl⟩
  have HI := Lib.hid (show (∀ R, RotL l R (m - (m - a)) m (m + (b - m)) → RotL l R a m b) ∧ OwnR w base g c l ∧ Below base w w from ⟨fun R h => by rwa [show m - (m - a) = a from by omega, show m + (b - m) = b from by omega] at h, hr, Below.refl _ _⟩)
  have HL := Lib.hid hnn
  have cS := fun (cur : List Rx) (hc : cur.length = n) (a b k : Nat) (x y z : Int) (W : World) (h : OwnR W base g c cur) hx hy hz h1 h2 => (hc ▸ swapr_any base g c cur a b k x y z f W h hx hy hz h1 h2 (by omega) : Calls Try.prog 83 #[.slice (some ⟨g, 0, none⟩) n c, .int .i64 x, .int .i64 y, .int .i64 z, f] W (RelPost base g c cur (fun l' => SwR cur l' a b k) W))
  have CS := Lib.hid cS
  rw [← hnn] at hb hn ⊢
  clear hr hnn cS
  go_enter Try.func78, Try.ntmps78
  go_wp2_with fail
  go_loopg [10, 11] (b - a) (fun gg s10 s11 wr => ∃ (i j : Nat) (cur : List Rx), 0 < i ∧ 0 < j ∧ i ≤ m ∧ m + j ≤ n ∧ i + j ≤ gg ∧ s10 = .int .i64 i ∧ s11 = .int .i64 j ∧ Hid (cur.length = n ∧ (∀ R, RotL cur R (m - i) m (m + j) → RotL l R a m b) ∧ OwnR wr base g c cur ∧ Below base w wr))
  case atStart => exact ⟨m - a, b - m, l, by omega, by omega, by omega, by omega, by omega, by go_num, by go_num, HL.out.symm, HI.out⟩
  case round =>
    obtain ⟨i, j, cur, hi0, hj0, him, hmj, hg, rfl, rfl, HM⟩ := hrel
    clear HI
    have q1 : (0 : Int) ≤ (m : Int) - (i : Int) := by omega
    have q2 : (m : Int) - (i : Int) ≤ (n : Int) := by omega
    by_cases hne : i = j
    · subst hne
      have hb1 : ((i : Int) != (i : Int)) = false := by simp
      go_wp2_with fail
      refine (CS.out cur HM.out.1 (m - i) m i _ _ _ _ HM.out.2.2.1 (by omega) rfl rfl (by omega) (by have := HM.out.1; omega)).mono ?_
      rintro e w1 ⟨rfl, l', hl', hS, hO, hB⟩
      have HS := Lib.hid hS
      have HO := Lib.hid hO
      have HB := Lib.hid hB
      clear hS hO hB
      go_wp2
      go_end0
      exact ⟨rfl, l', by have h1 := HM.out.1; have h2 := HL.out; omega, HM.out.2.1 l' (RotL.end_ HS.out him), HO.out, HM.out.2.2.2.trans HB.out⟩
    · have hb1 : ((i : Int) != (j : Int)) = true := by rw [bne_iff_ne]; omega
      by_cases hgt : j < i
      · have hgt' : (j : Int) < (i : Int) := by omega
        have q3 : (0 : Int) ≤ (i : Int) - (j : Int) := by omega
        go_wp2_with fail
        refine (CS.out cur HM.out.1 (m - i) m j _ _ _ _ HM.out.2.2.1 (by omega) rfl rfl (by omega) (by have := HM.out.1; omega)).mono ?_
        rintro e w1 ⟨rfl, l', hl', hS, hO, hB⟩
        have HS := Lib.hid hS
        have HO := Lib.hid hO
        have HB := Lib.hid hB
        have HLL := Lib.hid hl'
        clear hS hO hB hl'
        go_wp2
        go_roundg (i - j + j)
        case measure => omega
        case rel => exact ⟨i - j, j, l', by omega, hj0, by omega, hmj, by omega, by go_num, rfl, (show Hid _ from ⟨HLL.out.trans HM.out.1, fun R h => HM.out.2.1 R (RotL.more HS.out him hgt h), HO.out, HM.out.2.2.2.trans HB.out⟩)⟩
      · have hgt' : ¬ (j : Int) < (i : Int) := by omega
        have q3 : (0 : Int) ≤ (j : Int) - (i : Int) := by omega
        have q4 : (m : Int) + (j : Int) ≤ (n : Int) := by omega
        have q5 : (0 : Int) ≤ (m : Int) + (j : Int) - (i : Int) := by omega
        go_wp2_with fail
        refine (CS.out cur HM.out.1 (m - i) (m + j - i) i _ _ _ _ HM.out.2.2.1 (by omega) (by omega) rfl (by omega) (by have := HM.out.1; omega)).mono ?_
        rintro e w1 ⟨rfl, l', hl', hS, hO, hB⟩
        have HS := Lib.hid hS
        have HO := Lib.hid hO
        have HB := Lib.hid hB
        have HLL := Lib.hid hl'
        clear hS hO hB hl'
        go_wp2
        go_roundg (i + (j - i))
        case measure => omega
        case rel => exact ⟨i, j - i, l', hi0, by omega, him, by omega, by omega, rfl, by go_num, (show Hid _ from ⟨HLL.out.trans HM.out.1, fun R h => HM.out.2.1 R (RotL.less HS.out him (by omega) h), HO.out, HM.out.2.2.2.trans HB.out⟩)⟩
end Go.Proofs.Ytmcbnpeihedcaaa
