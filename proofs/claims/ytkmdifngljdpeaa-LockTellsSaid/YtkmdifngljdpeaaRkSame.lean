/- foliateref18: Same, New. -/
import Derived.Test.YtkmdifngljdpeaaRkApi2
namespace Go.Proofs.Ytkmdifngljdpeaa
open Go Go.RowKit
set_option linter.unusedVariables false
attribute [local go_sem ↓] Go.wp_at_zero Go.wp_at_succ

set_option maxRecDepth 100000 in
set_option maxHeartbeats 4000000 in
theorem RSame_any (v1 v2 : Value) (n1 m1 n2 m2 : Int) (xs ys : List Lk) (w : World) (hv1 : LkV w v1 n1 m1 xs) (hv2 : LkV w v2 n2 m2 ys) :
    Calls Try.prog 19 #[v1, v2] w fun e w' => e = .returned (.bool (sameL n1 m1 xs n2 m2 ys)) ∧ Below w.heap.size w w' := by
  obtain ⟨A1, c1, rfl, hv1⟩ := hv1.form
  obtain ⟨A2, c2, rfl, hv2⟩ := hv2.form
  have hb0 : Below w.heap.size w ((w.alloc (.cells #[.int .i64 n1, .int .i64 m1, .slice A1 xs.length c1] 24)).alloc (.cells #[.int .i64 n2, .int .i64 m2, .slice A2 ys.length c2] 24)) := ((Below.refl _ w).alloc (Nat.le_refl _) _).alloc (by simp) _
  cases h1 : (n1 == n2) with
  | false =>
    rw [show sameL n1 m1 xs n2 m2 ys = false from by simp [sameL, h1]]
    have h1' : (n1 != n2) = true := by simpa using h1
    go_enter Try.func19, Try.ntmps19
    go_wp2
    go_ret
    exact ⟨rfl, hb0⟩
  | true =>
    obtain rfl : n1 = n2 := by simpa using h1
    cases h2 : (m1 == m2) with
    | false =>
      rw [show sameL n1 m1 xs n1 m2 ys = false from by simp [sameL, h2]]
      have h2' : (m1 != m2) = true := by simpa using h2
      go_enter Try.func19, Try.ntmps19
      go_wp2
      go_ret
      exact ⟨rfl, hb0⟩
    | true =>
      obtain rfl : m1 = m2 := by simpa using h2
      rw [show sameL n1 m1 xs n1 m1 ys = eqL lkEq xs ys from by simp [sameL]]
      clear h1 h2
      by_cases hlen : xs.length = ys.length
      · have hs1 := hv1.sl
        have hs2 := hv2.sl
        have hp1 : 0 < xs.length → ∃ b o, A1 = some ⟨b, o, none⟩ ∧ b < w.heap.size ∧ ∀ (W : World), Below w.heap.size w W → ∀ j (hj : j < xs.length) i u, (encL xs[j])[i]? = some u → W.cell? ⟨b, o + j * 2 + i, none⟩ = some u := fun h => Sl.pos encL encL_len hs1 h
        have hp2 : 0 < ys.length → ∃ b o, A2 = some ⟨b, o, none⟩ ∧ b < w.heap.size ∧ ∀ (W : World), Below w.heap.size w W → ∀ j (hj : j < ys.length) i u, (encL ys[j])[i]? = some u → W.cell? ⟨b, o + j * 2 + i, none⟩ = some u := fun h => Sl.pos encL encL_len hs2 h
        obtain ⟨_, _, _, hc, hm⟩ := hs1.form
        have hbig : xs.length ≤ 9223372036854775807 := by unfold maxLen at hm; omega
        clear hs1 hs2 hv1 hv2 hc hm
        obtain ⟨n, hn⟩ : ∃ n, xs.length = n := ⟨_, rfl⟩
        have hn2 : ys.length = n := by rw [← hlen, hn]
        rw [hn] at hbig
        rw [hn, hn2] at hb0 ⊢
        have k0 : Blk ((w.alloc (.cells #[.int .i64 n1, .int .i64 m1, .slice A1 n c1] 24)).alloc (.cells #[.int .i64 n1, .int .i64 m1, .slice A2 n c2] 24)) w.heap.size 24 #[.int .i64 n1, .int .i64 m1, .slice A1 n c1] := (Blk.new_ w _ _ _ rfl).alloc _
        have k1 : Blk ((w.alloc (.cells #[.int .i64 n1, .int .i64 m1, .slice A1 n c1] 24)).alloc (.cells #[.int .i64 n1, .int .i64 m1, .slice A2 n c2] 24)) (w.heap.size + 1) 24 #[.int .i64 n1, .int .i64 m1, .slice A2 n c2] := Blk.new_ _ _ _ _ (by simp)
        have HN := Lib.hid hn
        have HN2 := Lib.hid hn2
        have HL := Lib.hid hlen
        have HP1 := Lib.hid hp1
        have HP2 := Lib.hid hp2
        obtain ⟨w1, hw1⟩ : ∃ x, ((w.alloc (.cells #[.int .i64 n1, .int .i64 m1, .slice A1 n c1] 24)).alloc (.cells #[.int .i64 n1, .int .i64 m1, .slice A2 n c2] 24)) = x := ⟨_, rfl⟩
        have HB := Lib.hid (hw1 ▸ hb0)
        have K0 := Lib.hid (hw1 ▸ k0)
        have K1 := Lib.hid (hw1 ▸ k1)
        have HW := Lib.hid hw1
        clear hn hn2 hlen hp1 hp2 hb0 k0 k1 hw1
        go_enter Try.func19, Try.ntmps19
        go_wp2
        rw [HW.out]
        clear HW
        go_loopg [5] n (fun gg s5 wr => ∃ kk : Nat, kk ≤ n ∧ n - kk ≤ gg ∧ s5 = .int .i64 kk ∧ Hid (Below w1.heap.size w1 wr) ∧ Hid (∀ j (h : j < xs.length) (h2 : j < ys.length), j < kk → lkEq xs[j] ys[j] = true))
        case atStart => exact ⟨0, Nat.zero_le _, by omega, rfl, Below.refl _ _, fun j _ _ hj => absurd hj (Nat.not_lt_zero _)⟩
        case round =>
          obtain ⟨kk, hkk, hg, rfl, BW, AA⟩ := hrel
          have q0 := K0.out.keep BW.out
          have q1 := K1.out.keep BW.out
          have l0 := q0.lt
          have l1 := q1.lt
          have s0 : wr.cell? ⟨w.heap.size, 0, none⟩ = some (.int .i64 n1) := by rw [q0.cell]; rfl
          have s1 : wr.cell? ⟨w.heap.size, 1, none⟩ = some (.int .i64 m1) := by rw [q0.cell]; rfl
          have s2 : wr.cell? ⟨w.heap.size, 2, none⟩ = some (.slice A1 n c1) := by rw [q0.cell]; rfl
          have sf0 : wr.frozen? ⟨w.heap.size, 0, none⟩ = false := q0.free 0
          have sf1 : wr.frozen? ⟨w.heap.size, 1, none⟩ = false := q0.free 1
          have sf2 : wr.frozen? ⟨w.heap.size, 2, none⟩ = false := q0.free 2
          have t0 : wr.cell? ⟨w.heap.size + 1, 0, none⟩ = some (.int .i64 n1) := by rw [q1.cell]; rfl
          have t1 : wr.cell? ⟨w.heap.size + 1, 1, none⟩ = some (.int .i64 m1) := by rw [q1.cell]; rfl
          have t2 : wr.cell? ⟨w.heap.size + 1, 2, none⟩ = some (.slice A2 n c2) := by rw [q1.cell]; rfl
          have tf0 : wr.frozen? ⟨w.heap.size + 1, 0, none⟩ = false := q1.free 0
          have tf1 : wr.frozen? ⟨w.heap.size + 1, 1, none⟩ = false := q1.free 1
          have tf2 : wr.frozen? ⟨w.heap.size + 1, 2, none⟩ = false := q1.free 2
          clear q0 q1
          by_cases hlt : kk < n
          · have hltz : (kk : Int) < (n : Int) := by omega
            have hgez : (0 : Int) ≤ (kk : Int) := by omega
            have hlt1 : kk < xs.length := by rw [HN.out]; exact hlt
            have hlt2 : kk < ys.length := by rw [HN2.out]; exact hlt
            obtain ⟨b1, o1, rfl, hb1, he1⟩ := HP1.out (by omega)
            obtain ⟨b2, o2, rfl, hb2, he2⟩ := HP2.out (by omega)
            have hYW := HB.out.trans (BW.out.mono HB.out.size)
            have x0 := he1 wr hYW kk hlt1 0 _ rfl
            have x1 := he1 wr hYW kk hlt1 1 _ rfl
            have y0 := he2 wr hYW kk hlt2 0 _ rfl
            have y1 := he2 wr hYW kk hlt2 1 _ rfl
            simp only [Nat.add_zero] at x0 y0
            have lb1 : b1 < wr.heap.size := Nat.lt_of_lt_of_le hb1 hYW.size
            have lb2 : b2 < wr.heap.size := Nat.lt_of_lt_of_le hb2 hYW.size
            clear he1 he2 HP1 HP2 hYW
            have hne := fun w => neq_lock xs[kk] ys[kk] w
            have hgd := fun a b w => guard_lock .neq a b xs[kk] ys[kk] w
            generalize hX : xs[kk] = x at x0 x1 hne hgd
            generalize hY : ys[kk] = y at y0 y1 hne hgd
            have HX := Lib.hid hX
            have HY := Lib.hid hY
            clear hX hY
            simp only [encL] at hne hgd
            have BD := (Below.refl wr.heap.size wr).drew
            cases hq : lkEq x y with
            | true =>
              rw [hq] at hne
              have HQ := Lib.hid hq
              clear hq
              go_wp2_with fail
              refine wp_region_held_drew (S := fun w' => w'.cell? ⟨w.heap.size, 2, none⟩ = some (.slice (some ⟨b1, o1, none⟩) n c1) ∧ w'.cell? ⟨w.heap.size + 1, 2, none⟩ = some (.slice (some ⟨b2, o2, none⟩) n c2) ∧ w'.cell? ⟨b1, o1 + kk * 2, none⟩ = some (.int .i64 x.v) ∧ w'.cell? ⟨b1, o1 + kk * 2 + 1, none⟩ = some (.int .i64 x.o) ∧ w'.cell? ⟨b2, o2 + kk * 2, none⟩ = some (.int .i64 y.v) ∧ w'.cell? ⟨b2, o2 + kk * 2 + 1, none⟩ = some (.int .i64 y.o)) (by kernel_rfl) ?_ (fun hHeldbr => ?_)
              · exact ⟨s2, t2, x0, x1, y0, y1⟩
              refine wpAnyH_take (i := 0) (oi := { dst := some 34, op := Op.fieldAddr 24 (Operand.tmp 2) 2, type := 0, pos := "ref.go:35", after := _, guard := none }) (v := ?vbr0) rfl (by kernel_rfl) (by kernel_rfl) (by kernel_rfl) (fun _ _ _ h => h) (Or.inl ⟨by rfl, ?hybr0⟩) (by assumption) ?restbr0
              case hybr0 => (intro w hSw; (try dsimp only at hSw); go_simp <;> with_reducible rfl)
              try simp only [Act.put, List.setIfInBounds_toArray, List.set_cons_zero, List.set_cons_succ]
              refine wpAnyH_take (i := 1) (oi := { dst := some 35, op := Op.load 22 (Operand.tmp 34), type := 22, pos := "ref.go:35", after := _, guard := none }) (v := ?vbr1) rfl (by kernel_rfl) (by kernel_rfl) (by kernel_rfl) (fun _ _ _ h => h) (Or.inl ⟨by rfl, ?hybr1⟩) (by assumption) ?restbr1
              case hybr1 => (intro w hSw; (try dsimp only at hSw); go_simp <;> with_reducible rfl)
              try simp only [Act.put, List.setIfInBounds_toArray, List.set_cons_zero, List.set_cons_succ]
              refine wpAnyH_take (i := 2) (oi := { dst := some 36, op := Op.move (Operand.tmp 5), type := 3, pos := "ref.go:35", after := _, guard := none }) (v := ?vbr2) rfl (by kernel_rfl) (by kernel_rfl) (by kernel_rfl) (fun _ _ _ h => h) (Or.inl ⟨by rfl, ?hybr2⟩) (by assumption) ?restbr2
              case hybr2 => (intro w hSw; (try dsimp only at hSw); go_simp <;> with_reducible rfl)
              try simp only [Act.put, List.setIfInBounds_toArray, List.set_cons_zero, List.set_cons_succ]
              refine wpAnyH_take (i := 3) (oi := { dst := some 37, op := Op.indexAddr 22 (Operand.tmp 35) (Operand.tmp 36), type := 0, pos := "ref.go:35", after := _, guard := none }) (v := ?vbr3) rfl (by kernel_rfl) (by kernel_rfl) (by kernel_rfl) (fun _ _ _ h => h) (Or.inl ⟨by rfl, ?hybr3⟩) (by assumption) ?restbr3
              case hybr3 => (intro w hSw; (try dsimp only at hSw); go_simp <;> with_reducible rfl)
              try simp only [Act.put, List.setIfInBounds_toArray, List.set_cons_zero, List.set_cons_succ]
              refine wpAnyH_take (i := 4) (oi := { dst := some 38, op := Op.load 40 (Operand.tmp 37), type := 40, pos := "ref.go:35", after := _, guard := none }) (v := ?vbr4) rfl (by kernel_rfl) (by kernel_rfl) (by kernel_rfl) (fun _ _ _ h => h) (Or.inl ⟨by rfl, ?hybr4⟩) (by assumption) ?restbr4
              case hybr4 => (intro w hSw; (try dsimp only at hSw); go_simp <;> with_reducible rfl)
              try simp only [Act.put, List.setIfInBounds_toArray, List.set_cons_zero, List.set_cons_succ]
              refine wpAnyH_take (i := 5) (oi := { dst := some 39, op := Op.fieldAddr 24 (Operand.tmp 3) 2, type := 0, pos := "ref.go:35", after := _, guard := none }) (v := ?vbr5) rfl (by kernel_rfl) (by kernel_rfl) (by kernel_rfl) (fun _ _ _ h => h) (Or.inl ⟨by rfl, ?hybr5⟩) (by assumption) ?restbr5
              case hybr5 => (intro w hSw; (try dsimp only at hSw); go_simp <;> with_reducible rfl)
              try simp only [Act.put, List.setIfInBounds_toArray, List.set_cons_zero, List.set_cons_succ]
              refine wpAnyH_take (i := 6) (oi := { dst := some 40, op := Op.load 22 (Operand.tmp 39), type := 22, pos := "ref.go:35", after := _, guard := none }) (v := ?vbr6) rfl (by kernel_rfl) (by kernel_rfl) (by kernel_rfl) (fun _ _ _ h => h) (Or.inl ⟨by rfl, ?hybr6⟩) (by assumption) ?restbr6
              case hybr6 => (intro w hSw; (try dsimp only at hSw); go_simp <;> with_reducible rfl)
              try simp only [Act.put, List.setIfInBounds_toArray, List.set_cons_zero, List.set_cons_succ]
              refine wpAnyH_take (i := 7) (oi := { dst := some 41, op := Op.move (Operand.tmp 5), type := 3, pos := "ref.go:35", after := _, guard := none }) (v := ?vbr7) rfl (by kernel_rfl) (by kernel_rfl) (by kernel_rfl) (fun _ _ _ h => h) (Or.inl ⟨by rfl, ?hybr7⟩) (by assumption) ?restbr7
              case hybr7 => (intro w hSw; (try dsimp only at hSw); go_simp <;> with_reducible rfl)
              try simp only [Act.put, List.setIfInBounds_toArray, List.set_cons_zero, List.set_cons_succ]
              refine wpAnyH_take (i := 8) (oi := { dst := some 42, op := Op.indexAddr 22 (Operand.tmp 40) (Operand.tmp 41), type := 0, pos := "ref.go:35", after := _, guard := none }) (v := ?vbr8) rfl (by kernel_rfl) (by kernel_rfl) (by kernel_rfl) (fun _ _ _ h => h) (Or.inl ⟨by rfl, ?hybr8⟩) (by assumption) ?restbr8
              case hybr8 => (intro w hSw; (try dsimp only at hSw); go_simp <;> with_reducible rfl)
              try simp only [Act.put, List.setIfInBounds_toArray, List.set_cons_zero, List.set_cons_succ]
              refine wpAnyH_take (i := 9) (oi := { dst := some 43, op := Op.load 40 (Operand.tmp 42), type := 40, pos := "ref.go:35", after := _, guard := none }) (v := ?vbr9) rfl (by kernel_rfl) (by kernel_rfl) (by kernel_rfl) (fun _ _ _ h => h) (Or.inl ⟨by rfl, ?hybr9⟩) (by assumption) ?restbr9
              case hybr9 => (intro w hSw; (try dsimp only at hSw); go_simp <;> with_reducible rfl)
              try simp only [Act.put, List.setIfInBounds_toArray, List.set_cons_zero, List.set_cons_succ]
              refine wpAnyH_take (i := 10) (oi := { dst := some 44, op := Op.binOp BinOp.neq 40 (Operand.tmp 38) (Operand.tmp 43) 40, type := 4, pos := "ref.go:35", after := _, guard := none }) (v := ?vbr10) rfl (by kernel_rfl) (by kernel_rfl) (by kernel_rfl) (fun _ _ _ h => h) (Or.inl ⟨by rfl, ?hybr10⟩) (by assumption) ?restbr10
              case hybr10 => (intro w hSw; (try dsimp only at hSw); go_simp <;> with_reducible rfl)
              try simp only [Act.put, List.setIfInBounds_toArray, List.set_cons_zero, List.set_cons_succ]
              refine wpAnyH_done (by kernel_rfl) ?_ _
              go_wp2
              go_roundg (n - (kk + 1))
              case measure => omega
              case rel =>
                refine ⟨kk + 1, by omega, by omega, by go_num, BW.out.drew, (show Hid _ from fun j h h2 hj => ?_)⟩
                by_cases e : j = kk
                · subst e
                  rw [HX.out, HY.out]; exact HQ.out
                · exact AA.out j h h2 (by omega)
            | false =>
              rw [hq] at hne
              have HQ := Lib.hid hq
              clear hq
              go_wp2_with fail
              refine wp_region_held_drew (S := fun w' => w'.cell? ⟨w.heap.size, 2, none⟩ = some (.slice (some ⟨b1, o1, none⟩) n c1) ∧ w'.cell? ⟨w.heap.size + 1, 2, none⟩ = some (.slice (some ⟨b2, o2, none⟩) n c2) ∧ w'.cell? ⟨b1, o1 + kk * 2, none⟩ = some (.int .i64 x.v) ∧ w'.cell? ⟨b1, o1 + kk * 2 + 1, none⟩ = some (.int .i64 x.o) ∧ w'.cell? ⟨b2, o2 + kk * 2, none⟩ = some (.int .i64 y.v) ∧ w'.cell? ⟨b2, o2 + kk * 2 + 1, none⟩ = some (.int .i64 y.o)) (by kernel_rfl) ?_ (fun hHeldcr => ?_)
              · exact ⟨s2, t2, x0, x1, y0, y1⟩
              refine wpAnyH_take (i := 0) (oi := { dst := some 34, op := Op.fieldAddr 24 (Operand.tmp 2) 2, type := 0, pos := "ref.go:35", after := _, guard := none }) (v := ?vcr0) rfl (by kernel_rfl) (by kernel_rfl) (by kernel_rfl) (fun _ _ _ h => h) (Or.inl ⟨by rfl, ?hycr0⟩) (by assumption) ?restcr0
              case hycr0 => (intro w hSw; (try dsimp only at hSw); go_simp <;> with_reducible rfl)
              try simp only [Act.put, List.setIfInBounds_toArray, List.set_cons_zero, List.set_cons_succ]
              refine wpAnyH_take (i := 1) (oi := { dst := some 35, op := Op.load 22 (Operand.tmp 34), type := 22, pos := "ref.go:35", after := _, guard := none }) (v := ?vcr1) rfl (by kernel_rfl) (by kernel_rfl) (by kernel_rfl) (fun _ _ _ h => h) (Or.inl ⟨by rfl, ?hycr1⟩) (by assumption) ?restcr1
              case hycr1 => (intro w hSw; (try dsimp only at hSw); go_simp <;> with_reducible rfl)
              try simp only [Act.put, List.setIfInBounds_toArray, List.set_cons_zero, List.set_cons_succ]
              refine wpAnyH_take (i := 2) (oi := { dst := some 36, op := Op.move (Operand.tmp 5), type := 3, pos := "ref.go:35", after := _, guard := none }) (v := ?vcr2) rfl (by kernel_rfl) (by kernel_rfl) (by kernel_rfl) (fun _ _ _ h => h) (Or.inl ⟨by rfl, ?hycr2⟩) (by assumption) ?restcr2
              case hycr2 => (intro w hSw; (try dsimp only at hSw); go_simp <;> with_reducible rfl)
              try simp only [Act.put, List.setIfInBounds_toArray, List.set_cons_zero, List.set_cons_succ]
              refine wpAnyH_take (i := 3) (oi := { dst := some 37, op := Op.indexAddr 22 (Operand.tmp 35) (Operand.tmp 36), type := 0, pos := "ref.go:35", after := _, guard := none }) (v := ?vcr3) rfl (by kernel_rfl) (by kernel_rfl) (by kernel_rfl) (fun _ _ _ h => h) (Or.inl ⟨by rfl, ?hycr3⟩) (by assumption) ?restcr3
              case hycr3 => (intro w hSw; (try dsimp only at hSw); go_simp <;> with_reducible rfl)
              try simp only [Act.put, List.setIfInBounds_toArray, List.set_cons_zero, List.set_cons_succ]
              refine wpAnyH_take (i := 4) (oi := { dst := some 38, op := Op.load 40 (Operand.tmp 37), type := 40, pos := "ref.go:35", after := _, guard := none }) (v := ?vcr4) rfl (by kernel_rfl) (by kernel_rfl) (by kernel_rfl) (fun _ _ _ h => h) (Or.inl ⟨by rfl, ?hycr4⟩) (by assumption) ?restcr4
              case hycr4 => (intro w hSw; (try dsimp only at hSw); go_simp <;> with_reducible rfl)
              try simp only [Act.put, List.setIfInBounds_toArray, List.set_cons_zero, List.set_cons_succ]
              refine wpAnyH_take (i := 5) (oi := { dst := some 39, op := Op.fieldAddr 24 (Operand.tmp 3) 2, type := 0, pos := "ref.go:35", after := _, guard := none }) (v := ?vcr5) rfl (by kernel_rfl) (by kernel_rfl) (by kernel_rfl) (fun _ _ _ h => h) (Or.inl ⟨by rfl, ?hycr5⟩) (by assumption) ?restcr5
              case hycr5 => (intro w hSw; (try dsimp only at hSw); go_simp <;> with_reducible rfl)
              try simp only [Act.put, List.setIfInBounds_toArray, List.set_cons_zero, List.set_cons_succ]
              refine wpAnyH_take (i := 6) (oi := { dst := some 40, op := Op.load 22 (Operand.tmp 39), type := 22, pos := "ref.go:35", after := _, guard := none }) (v := ?vcr6) rfl (by kernel_rfl) (by kernel_rfl) (by kernel_rfl) (fun _ _ _ h => h) (Or.inl ⟨by rfl, ?hycr6⟩) (by assumption) ?restcr6
              case hycr6 => (intro w hSw; (try dsimp only at hSw); go_simp <;> with_reducible rfl)
              try simp only [Act.put, List.setIfInBounds_toArray, List.set_cons_zero, List.set_cons_succ]
              refine wpAnyH_take (i := 7) (oi := { dst := some 41, op := Op.move (Operand.tmp 5), type := 3, pos := "ref.go:35", after := _, guard := none }) (v := ?vcr7) rfl (by kernel_rfl) (by kernel_rfl) (by kernel_rfl) (fun _ _ _ h => h) (Or.inl ⟨by rfl, ?hycr7⟩) (by assumption) ?restcr7
              case hycr7 => (intro w hSw; (try dsimp only at hSw); go_simp <;> with_reducible rfl)
              try simp only [Act.put, List.setIfInBounds_toArray, List.set_cons_zero, List.set_cons_succ]
              refine wpAnyH_take (i := 8) (oi := { dst := some 42, op := Op.indexAddr 22 (Operand.tmp 40) (Operand.tmp 41), type := 0, pos := "ref.go:35", after := _, guard := none }) (v := ?vcr8) rfl (by kernel_rfl) (by kernel_rfl) (by kernel_rfl) (fun _ _ _ h => h) (Or.inl ⟨by rfl, ?hycr8⟩) (by assumption) ?restcr8
              case hycr8 => (intro w hSw; (try dsimp only at hSw); go_simp <;> with_reducible rfl)
              try simp only [Act.put, List.setIfInBounds_toArray, List.set_cons_zero, List.set_cons_succ]
              refine wpAnyH_take (i := 9) (oi := { dst := some 43, op := Op.load 40 (Operand.tmp 42), type := 40, pos := "ref.go:35", after := _, guard := none }) (v := ?vcr9) rfl (by kernel_rfl) (by kernel_rfl) (by kernel_rfl) (fun _ _ _ h => h) (Or.inl ⟨by rfl, ?hycr9⟩) (by assumption) ?restcr9
              case hycr9 => (intro w hSw; (try dsimp only at hSw); go_simp <;> with_reducible rfl)
              try simp only [Act.put, List.setIfInBounds_toArray, List.set_cons_zero, List.set_cons_succ]
              refine wpAnyH_take (i := 10) (oi := { dst := some 44, op := Op.binOp BinOp.neq 40 (Operand.tmp 38) (Operand.tmp 43) 40, type := 4, pos := "ref.go:35", after := _, guard := none }) (v := ?vcr10) rfl (by kernel_rfl) (by kernel_rfl) (by kernel_rfl) (fun _ _ _ h => h) (Or.inl ⟨by rfl, ?hycr10⟩) (by assumption) ?restcr10
              case hycr10 => (intro w hSw; (try dsimp only at hSw); go_simp <;> with_reducible rfl)
              try simp only [Act.put, List.setIfInBounds_toArray, List.set_cons_zero, List.set_cons_succ]
              refine wpAnyH_done (by kernel_rfl) ?_ _
              go_wp2
              go_ret
              refine ⟨?_, HB.out.trans (BW.out.drew.mono HB.out.size)⟩
              have : eqL lkEq xs ys = false := by
                cases he : eqL lkEq xs ys with
                | false => rfl
                | true =>
                  have := eqL_at HL.out kk hlt1 he
                  rw [HX.out, HY.out, HQ.out] at this
                  exact this.symm
              rw [this]
              rfl
          · have hltz : ¬ (kk : Int) < (n : Int) := by omega
            obtain rfl : n = kk := by omega
            clear HP1 HP2
            go_wp2
            go_ret
            refine ⟨?_, HB.out.trans (BW.out.mono HB.out.size)⟩
            rw [eqL_all HL.out (fun j h => AA.out j h (by rw [← HL.out]; exact h) (by rw [HN.out] at h; exact h))]
            rfl
      · have he : eqL lkEq xs ys = false := by
          cases h : eqL lkEq xs ys with
          | false => rfl
          | true => exact absurd (eqL_len h) hlen
        rw [he]
        clear hv1 hv2 he
        generalize xs.length = n at *
        generalize ys.length = m at *
        have hne : ((n : Int) != (m : Int)) = true := by simp; omega
        clear hlen
        go_enter Try.func19, Try.ntmps19
        go_wp2
        go_ret
        exact ⟨rfl, hb0⟩
end Go.Proofs.Ytkmdifngljdpeaa
