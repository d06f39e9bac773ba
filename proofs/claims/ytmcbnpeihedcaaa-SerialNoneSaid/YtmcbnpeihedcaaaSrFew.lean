/- few of foliatelaw20; foliateref08.Ints. -/
import Derived.Test.YtmcbnpeihedcaaaSrReal
import Derived.Test.YtmcbnpeihedcaaaSrSerial
namespace Go.Proofs.Ytmcbnpeihedcaaa
open Go Go.RowKit
set_option linter.unusedVariables false

def fewR (h : List Rx) : Bool := h.all (fun x => decide (x.R.length ≤ 12) && decide (x.W.length ≤ 12)) && decide (h.length ≤ 30)

set_option maxRecDepth 100000 in
set_option maxHeartbeats 2000000 in
theorem few_any (v : Value) (h : List Rx) (w : World) (hv : RecsV w v h) :
    Calls Try.prog 9 #[v] w fun e w' => e = .returned (.bool (fewR h)) ∧ Below w.heap.size w w' := by
  obtain ⟨A, c, rfl, hlc, hcm⟩ := hv.1.form
  have HP := Lib.hid (fun h0 : 0 < h.length => Sl.pos encRx encRx_len hv.1 h0)
  have HOK := Lib.hid (fun x hx => And.intro (hv.2 x hx).1.form (hv.2 x hx).2.form)
  obtain ⟨n, hn⟩ : ∃ n, n = h.length := ⟨_, rfl⟩
  obtain ⟨r, hr⟩ : ∃ r, r = fewR h := ⟨_, rfl⟩
  rw [← hr]
  have HT := Lib.hid (show (∀ j (hj : j < h.length), h[j].R.length ≤ 12 ∧ h[j].W.length ≤ 12) → r = decide ((n : Int) ≤ 30) from fun hh => by
    rw [hr]
    unfold fewR
    rw [List.all_eq_true.2 (fun x hx => by obtain ⟨j, hj, rfl⟩ := List.getElem_of_mem hx; have := hh j hj; simpa using this), Bool.true_and, hn]
    by_cases h30 : h.length ≤ 30
    · rw [decide_eq_true h30, decide_eq_true (by omega)]
    · rw [decide_eq_false h30, decide_eq_false (by omega)])
  have HF := Lib.hid (show ∀ j (hj : j < h.length), ¬ (h[j].R.length ≤ 12 ∧ h[j].W.length ≤ 12) → r = false from fun j hj hh => by
    rw [hr]
    unfold fewR
    rw [List.all_eq_false.2 ⟨h[j], List.getElem_mem hj, by simpa using hh⟩, Bool.false_and])
  rw [← hn]
  have HN := Lib.hid hn
  have hmx : n ≤ 9223372036854775807 := by unfold maxLen at hcm; omega
  clear hn hr hv hlc hcm
  go_enter Try.func9, Try.ntmps9
  go_wp2_with fail
  go_loopg [3] n (fun gg s3 wr => ∃ kk : Nat, kk ≤ n ∧ n - kk ≤ gg ∧ s3 = .int .i64 kk ∧ w = wr ∧ Hid (∀ j (hj : j < h.length), j < kk → h[j].R.length ≤ 12 ∧ h[j].W.length ≤ 12))
  case atStart => exact ⟨0, by omega, by omega, rfl, rfl, fun j h h2 => absurd h2 (by omega)⟩
  case round =>
    obtain ⟨k, hk, hg, rfl, rfl, HA⟩ := hrel
    by_cases hlt : k < n
    · have hltz : (k : Int) < (n : Int) := by omega
      have hk0 : (0 : Int) ≤ (k : Int) := by omega
      have hkl : k < h.length := by rw [← HN.out]; exact hlt
      obtain ⟨b, o, hA, hbl, hel⟩ := HP.out (by omega)
      subst hA
      have hel := hel w (Below.refl _ _) k hkl
      have HFk := Lib.hid (HF.out k hkl)
      have HAk := Lib.hid (show h[k].R.length ≤ 12 ∧ h[k].W.length ≤ 12 → ∀ j (hj : j < h.length), j < k + 1 → h[j].R.length ≤ 12 ∧ h[j].W.length ≤ 12 from fun h1 j hj h2 => by
        by_cases e : j = k
        · subst e; exact h1
        · exact HA.out j hj (by omega))
      generalize h[k] = x at *
      have c6 := hel 6 _ rfl
      have c7 := hel 7 _ rfl
      clear hel
      generalize x.R.length = nr at *
      generalize x.W.length = nw at *
      by_cases h1 : nr ≤ 12
      · have h1z : ¬ (12 : Int) < (nr : Int) := by omega
        by_cases h2 : nw ≤ 12
        · have h2z : ¬ (12 : Int) < (nw : Int) := by omega
          go_wp2
          go_roundg (n - (k + 1))
          case measure => omega
          case rel => exact ⟨k + 1, by omega, by omega, by go_num, rfl, (show Hid _ from HAk.out ⟨h1, h2⟩)⟩
        · have h2z : (12 : Int) < (nw : Int) := by omega
          go_wp2
          go_ret
          exact ⟨congrArg (fun b => Ending.returned (.bool b)) (HFk.out (fun h => h2 h.2)).symm, Below.refl _ _⟩
      · have h1z : (12 : Int) < (nr : Int) := by omega
        go_wp2
        go_ret
        exact ⟨congrArg (fun b => Ending.returned (.bool b)) (HFk.out (fun h => h1 h.1)).symm, Below.refl _ _⟩
    · obtain rfl : n = k := by omega
      have HR := Lib.hid (HT.out (fun j hj => HA.out j hj (by rw [HN.out]; exact hj)))
      go_wp2
      go_ret
      exact ⟨congrArg (fun b => Ending.returned (.bool b)) HR.out.symm, Below.refl _ _⟩

set_option maxRecDepth 100000 in
set_option maxHeartbeats 4000000 in
theorem rints_any (v1 v2 : Value) (xs ys : List Int) (w : World) (hv1 : Sl w 1 v1 xs.length (xs.flatMap encI)) (hv2 : Sl w 1 v2 ys.length (ys.flatMap encI)) :
    Calls Try.prog 10 #[v1, v2] w fun e w' => e = .returned (.bool (decide (xs = ys))) ∧ Below w.heap.size w w' := by
  obtain ⟨A1, c1, rfl, _, hm1⟩ := hv1.form
  obtain ⟨A2, c2, rfl, _, hm2⟩ := hv2.form
  by_cases hlen : xs.length = ys.length
  · have HP1 := Lib.hid (fun h : 0 < xs.length => Sl.pos encI encI_len hv1 h)
    have HP2 := Lib.hid (fun h : 0 < ys.length => Sl.pos encI encI_len hv2 h)
    obtain ⟨n, hn⟩ : ∃ n, xs.length = n := ⟨_, rfl⟩
    have hn2 : ys.length = n := by omega
    have hbig : n ≤ 9223372036854775807 := by unfold maxLen at hm1; omega
    have HN := Lib.hid hn
    have HN2 := Lib.hid hn2
    have HL := Lib.hid hlen
    rw [hn, hn2]
    clear hn hn2 hlen hv1 hv2 hm1 hm2
    go_enter Try.func10, Try.ntmps10
    go_wp2_with fail
    go_loopg [5] n (fun gg s5 wr => ∃ kk : Nat, kk ≤ n ∧ n - kk ≤ gg ∧ s5 = .int .i64 kk ∧ Hid (Below w.heap.size w wr) ∧ Hid (∀ j (h : j < xs.length) (h2 : j < ys.length), j < kk → xs[j] = ys[j]))
    case atStart => exact ⟨0, Nat.zero_le _, by omega, rfl, Below.refl _ _, fun j _ _ hj => absurd hj (Nat.not_lt_zero _)⟩
    case round =>
      obtain ⟨kk, hkk, hg, rfl, BW, AA⟩ := hrel
      by_cases hlt : kk < n
      · have hltz : (kk : Int) < (n : Int) := by omega
        have hgez : (0 : Int) ≤ (kk : Int) := by omega
        have hlt1 : kk < xs.length := by rw [HN.out]; exact hlt
        have hlt2 : kk < ys.length := by rw [HN2.out]; exact hlt
        obtain ⟨b1, o1, e1, hb1, he1⟩ := HP1.out (by omega)
        obtain ⟨b2, o2, e2, hb2, he2⟩ := HP2.out (by omega)
        subst e1 e2
        have x0 := he1 wr BW.out kk hlt1 0 _ rfl
        have y0 := he2 wr BW.out kk hlt2 0 _ rfl
        simp only [Nat.add_zero, Nat.mul_one] at x0 y0
        clear he1 he2 HP1 HP2
        generalize hX : xs[kk] = x at x0
        generalize hY : ys[kk] = y at y0
        have HX := Lib.hid hX
        have HY := Lib.hid hY
        clear hX hY
        by_cases hq : x = y
        · subst hq
          go_wp2_with fail
          refine wp_region_held_drew (S := fun w' => w'.cell? ⟨b1, o1 + kk, none⟩ = some (.int .i64 x) ∧ w'.cell? ⟨b2, o2 + kk, none⟩ = some (.int .i64 x)) (by kernel_rfl) ?_ (fun hHeldbr => ?_)
          · exact ⟨x0, y0⟩
          refine wpAnyH_take (i := 0) (oi := { dst := some 17, op := Op.move (Operand.tmp 0), type := 29, pos := "ref.go:89", after := _, guard := none }) (v := ?vbr0) rfl (by kernel_rfl) (by kernel_rfl) (by kernel_rfl) (fun _ _ _ h => h) (Or.inl ⟨by rfl, ?hybr0⟩) (by assumption) ?restbr0
          case hybr0 => (intro w hSw; (try dsimp only at hSw); go_simp <;> with_reducible rfl)
          try simp only [Act.put, List.setIfInBounds_toArray, List.set_cons_zero, List.set_cons_succ]
          refine wpAnyH_take (i := 1) (oi := { dst := some 18, op := Op.move (Operand.tmp 5), type := 3, pos := "ref.go:89", after := _, guard := none }) (v := ?vbr1) rfl (by kernel_rfl) (by kernel_rfl) (by kernel_rfl) (fun _ _ _ h => h) (Or.inl ⟨by rfl, ?hybr1⟩) (by assumption) ?restbr1
          case hybr1 => (intro w hSw; (try dsimp only at hSw); go_simp <;> with_reducible rfl)
          try simp only [Act.put, List.setIfInBounds_toArray, List.set_cons_zero, List.set_cons_succ]
          refine wpAnyH_take (i := 2) (oi := { dst := some 19, op := Op.indexAddr 29 (Operand.tmp 17) (Operand.tmp 18), type := 0, pos := "ref.go:89", after := _, guard := none }) (v := ?vbr2) rfl (by kernel_rfl) (by kernel_rfl) (by kernel_rfl) (fun _ _ _ h => h) (Or.inl ⟨by rfl, ?hybr2⟩) (by assumption) ?restbr2
          case hybr2 => (intro w hSw; (try dsimp only at hSw); go_simp <;> with_reducible rfl)
          try simp only [Act.put, List.setIfInBounds_toArray, List.set_cons_zero, List.set_cons_succ]
          refine wpAnyH_take (i := 3) (oi := { dst := some 20, op := Op.load 3 (Operand.tmp 19), type := 3, pos := "ref.go:89", after := _, guard := none }) (v := ?vbr3) rfl (by kernel_rfl) (by kernel_rfl) (by kernel_rfl) (fun _ _ _ h => h) (Or.inl ⟨by rfl, ?hybr3⟩) (by assumption) ?restbr3
          case hybr3 => (intro w hSw; (try dsimp only at hSw); go_simp <;> with_reducible rfl)
          try simp only [Act.put, List.setIfInBounds_toArray, List.set_cons_zero, List.set_cons_succ]
          refine wpAnyH_take (i := 4) (oi := { dst := some 21, op := Op.move (Operand.tmp 1), type := 29, pos := "ref.go:89", after := _, guard := none }) (v := ?vbr4) rfl (by kernel_rfl) (by kernel_rfl) (by kernel_rfl) (fun _ _ _ h => h) (Or.inl ⟨by rfl, ?hybr4⟩) (by assumption) ?restbr4
          case hybr4 => (intro w hSw; (try dsimp only at hSw); go_simp <;> with_reducible rfl)
          try simp only [Act.put, List.setIfInBounds_toArray, List.set_cons_zero, List.set_cons_succ]
          refine wpAnyH_take (i := 5) (oi := { dst := some 22, op := Op.move (Operand.tmp 5), type := 3, pos := "ref.go:89", after := _, guard := none }) (v := ?vbr5) rfl (by kernel_rfl) (by kernel_rfl) (by kernel_rfl) (fun _ _ _ h => h) (Or.inl ⟨by rfl, ?hybr5⟩) (by assumption) ?restbr5
          case hybr5 => (intro w hSw; (try dsimp only at hSw); go_simp <;> with_reducible rfl)
          try simp only [Act.put, List.setIfInBounds_toArray, List.set_cons_zero, List.set_cons_succ]
          refine wpAnyH_take (i := 6) (oi := { dst := some 23, op := Op.indexAddr 29 (Operand.tmp 21) (Operand.tmp 22), type := 0, pos := "ref.go:89", after := _, guard := none }) (v := ?vbr6) rfl (by kernel_rfl) (by kernel_rfl) (by kernel_rfl) (fun _ _ _ h => h) (Or.inl ⟨by rfl, ?hybr6⟩) (by assumption) ?restbr6
          case hybr6 => (intro w hSw; (try dsimp only at hSw); go_simp <;> with_reducible rfl)
          try simp only [Act.put, List.setIfInBounds_toArray, List.set_cons_zero, List.set_cons_succ]
          refine wpAnyH_take (i := 7) (oi := { dst := some 24, op := Op.load 3 (Operand.tmp 23), type := 3, pos := "ref.go:89", after := _, guard := none }) (v := ?vbr7) rfl (by kernel_rfl) (by kernel_rfl) (by kernel_rfl) (fun _ _ _ h => h) (Or.inl ⟨by rfl, ?hybr7⟩) (by assumption) ?restbr7
          case hybr7 => (intro w hSw; (try dsimp only at hSw); go_simp <;> with_reducible rfl)
          try simp only [Act.put, List.setIfInBounds_toArray, List.set_cons_zero, List.set_cons_succ]
          refine wpAnyH_take (i := 8) (oi := { dst := some 25, op := Op.binOp BinOp.neq 3 (Operand.tmp 20) (Operand.tmp 24) 3, type := 4, pos := "ref.go:89", after := _, guard := none }) (v := ?vbr8) rfl (by kernel_rfl) (by kernel_rfl) (by kernel_rfl) (fun _ _ _ h => h) (Or.inl ⟨by rfl, ?hybr8⟩) (by assumption) ?restbr8
          case hybr8 => (intro w hSw; (try dsimp only at hSw); go_simp <;> with_reducible rfl)
          try simp only [Act.put, List.setIfInBounds_toArray, List.set_cons_zero, List.set_cons_succ]
          refine wpAnyH_done (by kernel_rfl) ?_ _
          go_wp2
          go_roundg (n - (kk + 1))
          case measure => omega
          case rel =>
            refine ⟨kk + 1, by omega, by omega, by go_num, BW.out.drew, (show Hid _ from fun j h h2 hj => ?_)⟩
            by_cases e : j = kk
            · subst e
              rw [HX.out, HY.out]
            · exact AA.out j h h2 (by omega)
        · have hq' : (x != y) = true := by simpa using hq
          go_wp2_with fail
          refine wp_region_held_drew (S := fun w' => w'.cell? ⟨b1, o1 + kk, none⟩ = some (.int .i64 x) ∧ w'.cell? ⟨b2, o2 + kk, none⟩ = some (.int .i64 y)) (by kernel_rfl) ?_ (fun hHeldcr => ?_)
          · exact ⟨x0, y0⟩
          refine wpAnyH_take (i := 0) (oi := { dst := some 17, op := Op.move (Operand.tmp 0), type := 29, pos := "ref.go:89", after := _, guard := none }) (v := ?vcr0) rfl (by kernel_rfl) (by kernel_rfl) (by kernel_rfl) (fun _ _ _ h => h) (Or.inl ⟨by rfl, ?hycr0⟩) (by assumption) ?restcr0
          case hycr0 => (intro w hSw; (try dsimp only at hSw); go_simp <;> with_reducible rfl)
          try simp only [Act.put, List.setIfInBounds_toArray, List.set_cons_zero, List.set_cons_succ]
          refine wpAnyH_take (i := 1) (oi := { dst := some 18, op := Op.move (Operand.tmp 5), type := 3, pos := "ref.go:89", after := _, guard := none }) (v := ?vcr1) rfl (by kernel_rfl) (by kernel_rfl) (by kernel_rfl) (fun _ _ _ h => h) (Or.inl ⟨by rfl, ?hycr1⟩) (by assumption) ?restcr1
          case hycr1 => (intro w hSw; (try dsimp only at hSw); go_simp <;> with_reducible rfl)
          try simp only [Act.put, List.setIfInBounds_toArray, List.set_cons_zero, List.set_cons_succ]
          refine wpAnyH_take (i := 2) (oi := { dst := some 19, op := Op.indexAddr 29 (Operand.tmp 17) (Operand.tmp 18), type := 0, pos := "ref.go:89", after := _, guard := none }) (v := ?vcr2) rfl (by kernel_rfl) (by kernel_rfl) (by kernel_rfl) (fun _ _ _ h => h) (Or.inl ⟨by rfl, ?hycr2⟩) (by assumption) ?restcr2
          case hycr2 => (intro w hSw; (try dsimp only at hSw); go_simp <;> with_reducible rfl)
          try simp only [Act.put, List.setIfInBounds_toArray, List.set_cons_zero, List.set_cons_succ]
          refine wpAnyH_take (i := 3) (oi := { dst := some 20, op := Op.load 3 (Operand.tmp 19), type := 3, pos := "ref.go:89", after := _, guard := none }) (v := ?vcr3) rfl (by kernel_rfl) (by kernel_rfl) (by kernel_rfl) (fun _ _ _ h => h) (Or.inl ⟨by rfl, ?hycr3⟩) (by assumption) ?restcr3
          case hycr3 => (intro w hSw; (try dsimp only at hSw); go_simp <;> with_reducible rfl)
          try simp only [Act.put, List.setIfInBounds_toArray, List.set_cons_zero, List.set_cons_succ]
          refine wpAnyH_take (i := 4) (oi := { dst := some 21, op := Op.move (Operand.tmp 1), type := 29, pos := "ref.go:89", after := _, guard := none }) (v := ?vcr4) rfl (by kernel_rfl) (by kernel_rfl) (by kernel_rfl) (fun _ _ _ h => h) (Or.inl ⟨by rfl, ?hycr4⟩) (by assumption) ?restcr4
          case hycr4 => (intro w hSw; (try dsimp only at hSw); go_simp <;> with_reducible rfl)
          try simp only [Act.put, List.setIfInBounds_toArray, List.set_cons_zero, List.set_cons_succ]
          refine wpAnyH_take (i := 5) (oi := { dst := some 22, op := Op.move (Operand.tmp 5), type := 3, pos := "ref.go:89", after := _, guard := none }) (v := ?vcr5) rfl (by kernel_rfl) (by kernel_rfl) (by kernel_rfl) (fun _ _ _ h => h) (Or.inl ⟨by rfl, ?hycr5⟩) (by assumption) ?restcr5
          case hycr5 => (intro w hSw; (try dsimp only at hSw); go_simp <;> with_reducible rfl)
          try simp only [Act.put, List.setIfInBounds_toArray, List.set_cons_zero, List.set_cons_succ]
          refine wpAnyH_take (i := 6) (oi := { dst := some 23, op := Op.indexAddr 29 (Operand.tmp 21) (Operand.tmp 22), type := 0, pos := "ref.go:89", after := _, guard := none }) (v := ?vcr6) rfl (by kernel_rfl) (by kernel_rfl) (by kernel_rfl) (fun _ _ _ h => h) (Or.inl ⟨by rfl, ?hycr6⟩) (by assumption) ?restcr6
          case hycr6 => (intro w hSw; (try dsimp only at hSw); go_simp <;> with_reducible rfl)
          try simp only [Act.put, List.setIfInBounds_toArray, List.set_cons_zero, List.set_cons_succ]
          refine wpAnyH_take (i := 7) (oi := { dst := some 24, op := Op.load 3 (Operand.tmp 23), type := 3, pos := "ref.go:89", after := _, guard := none }) (v := ?vcr7) rfl (by kernel_rfl) (by kernel_rfl) (by kernel_rfl) (fun _ _ _ h => h) (Or.inl ⟨by rfl, ?hycr7⟩) (by assumption) ?restcr7
          case hycr7 => (intro w hSw; (try dsimp only at hSw); go_simp <;> with_reducible rfl)
          try simp only [Act.put, List.setIfInBounds_toArray, List.set_cons_zero, List.set_cons_succ]
          refine wpAnyH_take (i := 8) (oi := { dst := some 25, op := Op.binOp BinOp.neq 3 (Operand.tmp 20) (Operand.tmp 24) 3, type := 4, pos := "ref.go:89", after := _, guard := none }) (v := ?vcr8) rfl (by kernel_rfl) (by kernel_rfl) (by kernel_rfl) (fun _ _ _ h => h) (Or.inl ⟨by rfl, ?hycr8⟩) (by assumption) ?restcr8
          case hycr8 => (intro w hSw; (try dsimp only at hSw); go_simp <;> with_reducible rfl)
          try simp only [Act.put, List.setIfInBounds_toArray, List.set_cons_zero, List.set_cons_succ]
          refine wpAnyH_done (by kernel_rfl) ?_ _
          go_wp2
          go_ret
          refine ⟨?_, BW.out.drew⟩
          have : decide (xs = ys) = false := decide_eq_false (fun he => by
            subst he
            exact hq (HX.out.symm.trans HY.out))
          rw [this]
          rfl
      · have hltz : ¬ (kk : Int) < (n : Int) := by omega
        obtain rfl : n = kk := by omega
        clear HP1 HP2
        go_wp2
        go_ret
        refine ⟨?_, BW.out⟩
        have : decide (xs = ys) = true := decide_eq_true (List.ext_getElem HL.out (fun j h h2 => AA.out j h h2 (by rw [HN.out] at h; exact h)))
        rw [this]
        rfl
  · have he : decide (xs = ys) = false := decide_eq_false (fun h => hlen (by rw [h]))
    rw [he]
    clear hv1 hv2 he hm1 hm2
    generalize xs.length = n at *
    generalize ys.length = m at *
    have hne : ((n : Int) != (m : Int)) = true := by simp; omega
    clear hlen
    go_enter Try.func10, Try.ntmps10
    go_wp2
    go_ret
    exact ⟨rfl, Below.refl _ _⟩
end Go.Proofs.Ytmcbnpeihedcaaa
