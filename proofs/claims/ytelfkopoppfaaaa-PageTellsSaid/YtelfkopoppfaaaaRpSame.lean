/- foliateref16: Same, Used. -/
import Derived.Test.YtelfkopoppfaaaaRpWrite
namespace Go.Proofs.Ytelfkopoppfaaaa
open Go Go.RowKit
set_option linter.unusedVariables false
attribute [local go_sem ↓] Go.wp_at_zero Go.wp_at_succ

set_option maxRecDepth 100000 in
set_option maxHeartbeats 4000000 in
theorem RSame_any (v1 v2 : Value) (k1 k2 : Int) (xs ys : List Pg) (w : World) (hv1 : StV w v1 k1 xs) (hv2 : StV w v2 k2 ys) :
    Calls Try.prog 23 #[v1, v2] w fun e w' => e = .returned (.bool (sameP k1 xs k2 ys)) ∧ Below w.heap.size w w' := by
  obtain ⟨A1, c1, rfl, hv1⟩ := hv1.form
  obtain ⟨A2, c2, rfl, hv2⟩ := hv2.form
  have hb0 : Below w.heap.size w ((w.alloc (.cells #[.int .i64 k1, .slice A1 xs.length c1] 25)).alloc (.cells #[.int .i64 k2, .slice A2 ys.length c2] 25)) := ((Below.refl _ w).alloc (Nat.le_refl _) _).alloc (by simp) _
  cases h1 : (k1 == k2) with
  | false =>
    rw [show sameP k1 xs k2 ys = false from by simp [sameP, h1]]
    have h1' : (k1 != k2) = true := by simpa using h1
    go_enter Try.func23, Try.ntmps23
    go_wp2
    go_ret
    exact ⟨rfl, hb0⟩
  | true =>
    obtain rfl : k1 = k2 := by simpa using h1
    rw [show sameP k1 xs k1 ys = eqL pgEq xs ys from by simp [sameP]]
    clear h1
    by_cases hlen : xs.length = ys.length
    · have hs1 := hv1.sl
      have hs2 := hv2.sl
      have hp1 : 0 < xs.length → ∃ b o, A1 = some ⟨b, o, none⟩ ∧ b < w.heap.size ∧ ∀ (W : World), Below w.heap.size w W → ∀ j (hj : j < xs.length) i u, (encP xs[j])[i]? = some u → W.cell? ⟨b, o + j * 5 + i, none⟩ = some u := fun h => Sl.pos encP encP_len hs1 h
      have hp2 : 0 < ys.length → ∃ b o, A2 = some ⟨b, o, none⟩ ∧ b < w.heap.size ∧ ∀ (W : World), Below w.heap.size w W → ∀ j (hj : j < ys.length) i u, (encP ys[j])[i]? = some u → W.cell? ⟨b, o + j * 5 + i, none⟩ = some u := fun h => Sl.pos encP encP_len hs2 h
      obtain ⟨_, _, _, hc, hm⟩ := hs1.form
      have hbig : xs.length ≤ 9223372036854775807 := by unfold maxLen at hm; omega
      clear hs1 hs2 hv1 hv2 hc hm
      obtain ⟨n, hn⟩ : ∃ n, xs.length = n := ⟨_, rfl⟩
      have hn2 : ys.length = n := by rw [← hlen, hn]
      rw [hn] at hbig
      rw [hn, hn2] at hb0 ⊢
      have q0 : Blk ((w.alloc (.cells #[.int .i64 k1, .slice A1 n c1] 25)).alloc (.cells #[.int .i64 k1, .slice A2 n c2] 25)) w.heap.size 25 #[.int .i64 k1, .slice A1 n c1] := (Blk.new_ w _ _ _ rfl).alloc _
      have q1 : Blk ((w.alloc (.cells #[.int .i64 k1, .slice A1 n c1] 25)).alloc (.cells #[.int .i64 k1, .slice A2 n c2] 25)) (w.heap.size + 1) 25 #[.int .i64 k1, .slice A2 n c2] := Blk.new_ _ _ _ _ (by simp)
      have HN := Lib.hid hn
      have HN2 := Lib.hid hn2
      have HL := Lib.hid hlen
      have HP1 := Lib.hid hp1
      have HP2 := Lib.hid hp2
      obtain ⟨w1, hw1⟩ : ∃ x, ((w.alloc (.cells #[.int .i64 k1, .slice A1 n c1] 25)).alloc (.cells #[.int .i64 k1, .slice A2 n c2] 25)) = x := ⟨_, rfl⟩
      have HB := Lib.hid (hw1 ▸ hb0)
      have K0 := Lib.hid (hw1 ▸ q0)
      have K1 := Lib.hid (hw1 ▸ q1)
      have HW := Lib.hid hw1
      clear hn hn2 hlen hp1 hp2 hb0 q0 q1 hw1
      go_enter Try.func23, Try.ntmps23
      go_wp2
      rw [HW.out]
      clear HW
      go_loopg [5] n (fun gg s5 wr => ∃ kk : Nat, kk ≤ n ∧ n - kk ≤ gg ∧ s5 = .int .i64 kk ∧ Hid (Below w1.heap.size w1 wr) ∧ Hid (∀ j (h : j < xs.length) (h2 : j < ys.length), j < kk → pgEq xs[j] ys[j] = true))
      case atStart => exact ⟨0, Nat.zero_le _, by omega, rfl, Below.refl _ _, fun j _ _ hj => absurd hj (Nat.not_lt_zero _)⟩
      case round =>
        obtain ⟨kk, hkk, hg, rfl, BW, AA⟩ := hrel
        have q0 := K0.out.keep BW.out
        have q1 := K1.out.keep BW.out
        have l0 := q0.lt
        have l1 := q1.lt
        have s0 : wr.cell? ⟨w.heap.size, 0, none⟩ = some (.int .i64 k1) := by rw [q0.cell]; rfl
        have sf0 : wr.frozen? ⟨w.heap.size, 0, none⟩ = false := q0.free 0
        have s1 : wr.cell? ⟨w.heap.size, 1, none⟩ = some (.slice A1 n c1) := by rw [q0.cell]; rfl
        have sf1 : wr.frozen? ⟨w.heap.size, 1, none⟩ = false := q0.free 1
        have t0 : wr.cell? ⟨w.heap.size + 1, 0, none⟩ = some (.int .i64 k1) := by rw [q1.cell]; rfl
        have tf0 : wr.frozen? ⟨w.heap.size + 1, 0, none⟩ = false := q1.free 0
        have t1 : wr.cell? ⟨w.heap.size + 1, 1, none⟩ = some (.slice A2 n c2) := by rw [q1.cell]; rfl
        have tf1 : wr.frozen? ⟨w.heap.size + 1, 1, none⟩ = false := q1.free 1
        clear q0 q1
        by_cases hlt : kk < n
        · have hltz : (kk : Int) < (n : Int) := by omega
          have hgez : (0 : Int) ≤ (kk : Int) := by omega
          have hlt1 : kk < xs.length := by rw [HN.out]; exact hlt
          have hlt2 : kk < ys.length := by rw [HN2.out]; exact hlt
          obtain ⟨b1, o1, rfl, hb1, he1⟩ := HP1.out (by omega)
          obtain ⟨b2, o2, rfl, hb2, he2⟩ := HP2.out (by omega)
          have hYW := HB.out.trans (BW.out.mono HB.out.size)
          have x0 := he1 wr hYW kk hlt1 0 _ rfl
          have x1 := he1 wr hYW kk hlt1 1 _ rfl
          have x2 := he1 wr hYW kk hlt1 2 _ rfl
          have x3 := he1 wr hYW kk hlt1 3 _ rfl
          have x4 := he1 wr hYW kk hlt1 4 _ rfl
          have y0 := he2 wr hYW kk hlt2 0 _ rfl
          have y1 := he2 wr hYW kk hlt2 1 _ rfl
          have y2 := he2 wr hYW kk hlt2 2 _ rfl
          have y3 := he2 wr hYW kk hlt2 3 _ rfl
          have y4 := he2 wr hYW kk hlt2 4 _ rfl
          simp only [Nat.add_zero] at x0 y0
          have lb1 : b1 < wr.heap.size := Nat.lt_of_lt_of_le hb1 hYW.size
          have lb2 : b2 < wr.heap.size := Nat.lt_of_lt_of_le hb2 hYW.size
          clear he1 he2 HP1 HP2 hYW
          have hne := fun w => neq_page xs[kk] ys[kk] w
          have hgd := fun a b w => guard_page .neq a b xs[kk] ys[kk] w
          generalize hX : xs[kk] = x at x0 x1 x2 x3 x4 hne hgd
          generalize hY : ys[kk] = y at y0 y1 y2 y3 y4 hne hgd
          have HX := Lib.hid hX
          have HY := Lib.hid hY
          clear hX hY
          simp only [encP] at hne hgd
          cases hq : pgEq x y with
          | true =>
            rw [hq] at hne
            have HQ := Lib.hid hq
            clear hq
            go_wp2_with fail
            refine wp_region_held_drew (S := fun w' => w'.cell? ⟨w.heap.size, 1, none⟩ = some (.slice (some ⟨b1, o1, none⟩) n c1) ∧ w'.cell? ⟨w.heap.size + 1, 1, none⟩ = some (.slice (some ⟨b2, o2, none⟩) n c2) ∧ w'.cell? ⟨b1, o1 + kk * 5, none⟩ = some (.int .i64 x.r) ∧ w'.cell? ⟨b1, o1 + kk * 5 + 1, none⟩ = some (.int .i64 x.a) ∧ w'.cell? ⟨b1, o1 + kk * 5 + 2, none⟩ = some (.int .i64 x.b) ∧ w'.cell? ⟨b1, o1 + kk * 5 + 3, none⟩ = some (.int .i64 x.c) ∧ w'.cell? ⟨b1, o1 + kk * 5 + 4, none⟩ = some (.int .i64 x.d) ∧ w'.cell? ⟨b2, o2 + kk * 5, none⟩ = some (.int .i64 y.r) ∧ w'.cell? ⟨b2, o2 + kk * 5 + 1, none⟩ = some (.int .i64 y.a) ∧ w'.cell? ⟨b2, o2 + kk * 5 + 2, none⟩ = some (.int .i64 y.b) ∧ w'.cell? ⟨b2, o2 + kk * 5 + 3, none⟩ = some (.int .i64 y.c) ∧ w'.cell? ⟨b2, o2 + kk * 5 + 4, none⟩ = some (.int .i64 y.d)) (by kernel_rfl) ?_ (fun hHeldbr => ?_)
            · exact ⟨s1, t1, x0, x1, x2, x3, x4, y0, y1, y2, y3, y4⟩
            refine wpAnyH_take (i := 0) (oi := { dst := some 27, op := Op.fieldAddr 25 (Operand.tmp 2) 1, type := 0, pos := "ref.go:31", after := _, guard := none }) (v := ?vbr0) rfl (by kernel_rfl) (by kernel_rfl) (by kernel_rfl) (fun _ _ _ h => h) (Or.inl ⟨by rfl, ?hybr0⟩) (by assumption) ?restbr0
            case hybr0 => (intro w hSw; (try dsimp only at hSw); go_simp <;> with_reducible rfl)
            try simp only [Act.put, List.setIfInBounds_toArray, List.set_cons_zero, List.set_cons_succ]
            refine wpAnyH_take (i := 1) (oi := { dst := some 28, op := Op.load 23 (Operand.tmp 27), type := 23, pos := "ref.go:31", after := _, guard := none }) (v := ?vbr1) rfl (by kernel_rfl) (by kernel_rfl) (by kernel_rfl) (fun _ _ _ h => h) (Or.inl ⟨by rfl, ?hybr1⟩) (by assumption) ?restbr1
            case hybr1 => (intro w hSw; (try dsimp only at hSw); go_simp <;> with_reducible rfl)
            try simp only [Act.put, List.setIfInBounds_toArray, List.set_cons_zero, List.set_cons_succ]
            refine wpAnyH_take (i := 2) (oi := { dst := some 29, op := Op.move (Operand.tmp 5), type := 3, pos := "ref.go:31", after := _, guard := none }) (v := ?vbr2) rfl (by kernel_rfl) (by kernel_rfl) (by kernel_rfl) (fun _ _ _ h => h) (Or.inl ⟨by rfl, ?hybr2⟩) (by assumption) ?restbr2
            case hybr2 => (intro w hSw; (try dsimp only at hSw); go_simp <;> with_reducible rfl)
            try simp only [Act.put, List.setIfInBounds_toArray, List.set_cons_zero, List.set_cons_succ]
            refine wpAnyH_take (i := 3) (oi := { dst := some 30, op := Op.indexAddr 23 (Operand.tmp 28) (Operand.tmp 29), type := 0, pos := "ref.go:31", after := _, guard := none }) (v := ?vbr3) rfl (by kernel_rfl) (by kernel_rfl) (by kernel_rfl) (fun _ _ _ h => h) (Or.inl ⟨by rfl, ?hybr3⟩) (by assumption) ?restbr3
            case hybr3 => (intro w hSw; (try dsimp only at hSw); go_simp <;> with_reducible rfl)
            try simp only [Act.put, List.setIfInBounds_toArray, List.set_cons_zero, List.set_cons_succ]
            refine wpAnyH_take (i := 4) (oi := { dst := some 31, op := Op.load 37 (Operand.tmp 30), type := 37, pos := "ref.go:31", after := _, guard := none }) (v := ?vbr4) rfl (by kernel_rfl) (by kernel_rfl) (by kernel_rfl) (fun _ _ _ h => h) (Or.inl ⟨by rfl, ?hybr4⟩) (by assumption) ?restbr4
            case hybr4 => (intro w hSw; (try dsimp only at hSw); go_simp <;> with_reducible rfl)
            try simp only [Act.put, List.setIfInBounds_toArray, List.set_cons_zero, List.set_cons_succ]
            refine wpAnyH_take (i := 5) (oi := { dst := some 32, op := Op.fieldAddr 25 (Operand.tmp 3) 1, type := 0, pos := "ref.go:31", after := _, guard := none }) (v := ?vbr5) rfl (by kernel_rfl) (by kernel_rfl) (by kernel_rfl) (fun _ _ _ h => h) (Or.inl ⟨by rfl, ?hybr5⟩) (by assumption) ?restbr5
            case hybr5 => (intro w hSw; (try dsimp only at hSw); go_simp <;> with_reducible rfl)
            try simp only [Act.put, List.setIfInBounds_toArray, List.set_cons_zero, List.set_cons_succ]
            refine wpAnyH_take (i := 6) (oi := { dst := some 33, op := Op.load 23 (Operand.tmp 32), type := 23, pos := "ref.go:31", after := _, guard := none }) (v := ?vbr6) rfl (by kernel_rfl) (by kernel_rfl) (by kernel_rfl) (fun _ _ _ h => h) (Or.inl ⟨by rfl, ?hybr6⟩) (by assumption) ?restbr6
            case hybr6 => (intro w hSw; (try dsimp only at hSw); go_simp <;> with_reducible rfl)
            try simp only [Act.put, List.setIfInBounds_toArray, List.set_cons_zero, List.set_cons_succ]
            refine wpAnyH_take (i := 7) (oi := { dst := some 34, op := Op.move (Operand.tmp 5), type := 3, pos := "ref.go:31", after := _, guard := none }) (v := ?vbr7) rfl (by kernel_rfl) (by kernel_rfl) (by kernel_rfl) (fun _ _ _ h => h) (Or.inl ⟨by rfl, ?hybr7⟩) (by assumption) ?restbr7
            case hybr7 => (intro w hSw; (try dsimp only at hSw); go_simp <;> with_reducible rfl)
            try simp only [Act.put, List.setIfInBounds_toArray, List.set_cons_zero, List.set_cons_succ]
            refine wpAnyH_take (i := 8) (oi := { dst := some 35, op := Op.indexAddr 23 (Operand.tmp 33) (Operand.tmp 34), type := 0, pos := "ref.go:31", after := _, guard := none }) (v := ?vbr8) rfl (by kernel_rfl) (by kernel_rfl) (by kernel_rfl) (fun _ _ _ h => h) (Or.inl ⟨by rfl, ?hybr8⟩) (by assumption) ?restbr8
            case hybr8 => (intro w hSw; (try dsimp only at hSw); go_simp <;> with_reducible rfl)
            try simp only [Act.put, List.setIfInBounds_toArray, List.set_cons_zero, List.set_cons_succ]
            refine wpAnyH_take (i := 9) (oi := { dst := some 36, op := Op.load 37 (Operand.tmp 35), type := 37, pos := "ref.go:31", after := _, guard := none }) (v := ?vbr9) rfl (by kernel_rfl) (by kernel_rfl) (by kernel_rfl) (fun _ _ _ h => h) (Or.inl ⟨by rfl, ?hybr9⟩) (by assumption) ?restbr9
            case hybr9 => (intro w hSw; (try dsimp only at hSw); go_simp <;> with_reducible rfl)
            try simp only [Act.put, List.setIfInBounds_toArray, List.set_cons_zero, List.set_cons_succ]
            refine wpAnyH_take (i := 10) (oi := { dst := some 37, op := Op.binOp BinOp.neq 37 (Operand.tmp 31) (Operand.tmp 36) 37, type := 4, pos := "ref.go:31", after := _, guard := none }) (v := ?vbr10) rfl (by kernel_rfl) (by kernel_rfl) (by kernel_rfl) (fun _ _ _ h => h) (Or.inl ⟨by rfl, ?hybr10⟩) (by assumption) ?restbr10
            case hybr10 => (intro w hSw; (try dsimp only at hSw); go_simp <;> with_reducible rfl)
            try simp only [Act.put, List.setIfInBounds_toArray, List.set_cons_zero, List.set_cons_succ]
            refine wpAnyH_done (by kernel_rfl) ?_ _
            go_wp2
            go_roundg (n - (kk + 1))
            case measure => omega
            case rel =>
              refine ⟨kk + 1, by omega, by omega, by go_num, BW.out.drew, (show Hid _ from fun j h h2 hj => ?_)⟩
              by_cases e : j = kk
              · subst e
                rw [HX.out, HY.out]; exact HQ.out
              · exact AA.out j h h2 (by omega)
          | false =>
            rw [hq] at hne
            have HQ := Lib.hid hq
            clear hq
            go_wp2_with fail
            refine wp_region_held_drew (S := fun w' => w'.cell? ⟨w.heap.size, 1, none⟩ = some (.slice (some ⟨b1, o1, none⟩) n c1) ∧ w'.cell? ⟨w.heap.size + 1, 1, none⟩ = some (.slice (some ⟨b2, o2, none⟩) n c2) ∧ w'.cell? ⟨b1, o1 + kk * 5, none⟩ = some (.int .i64 x.r) ∧ w'.cell? ⟨b1, o1 + kk * 5 + 1, none⟩ = some (.int .i64 x.a) ∧ w'.cell? ⟨b1, o1 + kk * 5 + 2, none⟩ = some (.int .i64 x.b) ∧ w'.cell? ⟨b1, o1 + kk * 5 + 3, none⟩ = some (.int .i64 x.c) ∧ w'.cell? ⟨b1, o1 + kk * 5 + 4, none⟩ = some (.int .i64 x.d) ∧ w'.cell? ⟨b2, o2 + kk * 5, none⟩ = some (.int .i64 y.r) ∧ w'.cell? ⟨b2, o2 + kk * 5 + 1, none⟩ = some (.int .i64 y.a) ∧ w'.cell? ⟨b2, o2 + kk * 5 + 2, none⟩ = some (.int .i64 y.b) ∧ w'.cell? ⟨b2, o2 + kk * 5 + 3, none⟩ = some (.int .i64 y.c) ∧ w'.cell? ⟨b2, o2 + kk * 5 + 4, none⟩ = some (.int .i64 y.d)) (by kernel_rfl) ?_ (fun hHeldcr => ?_)
            · exact ⟨s1, t1, x0, x1, x2, x3, x4, y0, y1, y2, y3, y4⟩
            refine wpAnyH_take (i := 0) (oi := { dst := some 27, op := Op.fieldAddr 25 (Operand.tmp 2) 1, type := 0, pos := "ref.go:31", after := _, guard := none }) (v := ?vcr0) rfl (by kernel_rfl) (by kernel_rfl) (by kernel_rfl) (fun _ _ _ h => h) (Or.inl ⟨by rfl, ?hycr0⟩) (by assumption) ?restcr0
            case hycr0 => (intro w hSw; (try dsimp only at hSw); go_simp <;> with_reducible rfl)
            try simp only [Act.put, List.setIfInBounds_toArray, List.set_cons_zero, List.set_cons_succ]
            refine wpAnyH_take (i := 1) (oi := { dst := some 28, op := Op.load 23 (Operand.tmp 27), type := 23, pos := "ref.go:31", after := _, guard := none }) (v := ?vcr1) rfl (by kernel_rfl) (by kernel_rfl) (by kernel_rfl) (fun _ _ _ h => h) (Or.inl ⟨by rfl, ?hycr1⟩) (by assumption) ?restcr1
            case hycr1 => (intro w hSw; (try dsimp only at hSw); go_simp <;> with_reducible rfl)
            try simp only [Act.put, List.setIfInBounds_toArray, List.set_cons_zero, List.set_cons_succ]
            refine wpAnyH_take (i := 2) (oi := { dst := some 29, op := Op.move (Operand.tmp 5), type := 3, pos := "ref.go:31", after := _, guard := none }) (v := ?vcr2) rfl (by kernel_rfl) (by kernel_rfl) (by kernel_rfl) (fun _ _ _ h => h) (Or.inl ⟨by rfl, ?hycr2⟩) (by assumption) ?restcr2
            case hycr2 => (intro w hSw; (try dsimp only at hSw); go_simp <;> with_reducible rfl)
            try simp only [Act.put, List.setIfInBounds_toArray, List.set_cons_zero, List.set_cons_succ]
            refine wpAnyH_take (i := 3) (oi := { dst := some 30, op := Op.indexAddr 23 (Operand.tmp 28) (Operand.tmp 29), type := 0, pos := "ref.go:31", after := _, guard := none }) (v := ?vcr3) rfl (by kernel_rfl) (by kernel_rfl) (by kernel_rfl) (fun _ _ _ h => h) (Or.inl ⟨by rfl, ?hycr3⟩) (by assumption) ?restcr3
            case hycr3 => (intro w hSw; (try dsimp only at hSw); go_simp <;> with_reducible rfl)
            try simp only [Act.put, List.setIfInBounds_toArray, List.set_cons_zero, List.set_cons_succ]
            refine wpAnyH_take (i := 4) (oi := { dst := some 31, op := Op.load 37 (Operand.tmp 30), type := 37, pos := "ref.go:31", after := _, guard := none }) (v := ?vcr4) rfl (by kernel_rfl) (by kernel_rfl) (by kernel_rfl) (fun _ _ _ h => h) (Or.inl ⟨by rfl, ?hycr4⟩) (by assumption) ?restcr4
            case hycr4 => (intro w hSw; (try dsimp only at hSw); go_simp <;> with_reducible rfl)
            try simp only [Act.put, List.setIfInBounds_toArray, List.set_cons_zero, List.set_cons_succ]
            refine wpAnyH_take (i := 5) (oi := { dst := some 32, op := Op.fieldAddr 25 (Operand.tmp 3) 1, type := 0, pos := "ref.go:31", after := _, guard := none }) (v := ?vcr5) rfl (by kernel_rfl) (by kernel_rfl) (by kernel_rfl) (fun _ _ _ h => h) (Or.inl ⟨by rfl, ?hycr5⟩) (by assumption) ?restcr5
            case hycr5 => (intro w hSw; (try dsimp only at hSw); go_simp <;> with_reducible rfl)
            try simp only [Act.put, List.setIfInBounds_toArray, List.set_cons_zero, List.set_cons_succ]
            refine wpAnyH_take (i := 6) (oi := { dst := some 33, op := Op.load 23 (Operand.tmp 32), type := 23, pos := "ref.go:31", after := _, guard := none }) (v := ?vcr6) rfl (by kernel_rfl) (by kernel_rfl) (by kernel_rfl) (fun _ _ _ h => h) (Or.inl ⟨by rfl, ?hycr6⟩) (by assumption) ?restcr6
            case hycr6 => (intro w hSw; (try dsimp only at hSw); go_simp <;> with_reducible rfl)
            try simp only [Act.put, List.setIfInBounds_toArray, List.set_cons_zero, List.set_cons_succ]
            refine wpAnyH_take (i := 7) (oi := { dst := some 34, op := Op.move (Operand.tmp 5), type := 3, pos := "ref.go:31", after := _, guard := none }) (v := ?vcr7) rfl (by kernel_rfl) (by kernel_rfl) (by kernel_rfl) (fun _ _ _ h => h) (Or.inl ⟨by rfl, ?hycr7⟩) (by assumption) ?restcr7
            case hycr7 => (intro w hSw; (try dsimp only at hSw); go_simp <;> with_reducible rfl)
            try simp only [Act.put, List.setIfInBounds_toArray, List.set_cons_zero, List.set_cons_succ]
            refine wpAnyH_take (i := 8) (oi := { dst := some 35, op := Op.indexAddr 23 (Operand.tmp 33) (Operand.tmp 34), type := 0, pos := "ref.go:31", after := _, guard := none }) (v := ?vcr8) rfl (by kernel_rfl) (by kernel_rfl) (by kernel_rfl) (fun _ _ _ h => h) (Or.inl ⟨by rfl, ?hycr8⟩) (by assumption) ?restcr8
            case hycr8 => (intro w hSw; (try dsimp only at hSw); go_simp <;> with_reducible rfl)
            try simp only [Act.put, List.setIfInBounds_toArray, List.set_cons_zero, List.set_cons_succ]
            refine wpAnyH_take (i := 9) (oi := { dst := some 36, op := Op.load 37 (Operand.tmp 35), type := 37, pos := "ref.go:31", after := _, guard := none }) (v := ?vcr9) rfl (by kernel_rfl) (by kernel_rfl) (by kernel_rfl) (fun _ _ _ h => h) (Or.inl ⟨by rfl, ?hycr9⟩) (by assumption) ?restcr9
            case hycr9 => (intro w hSw; (try dsimp only at hSw); go_simp <;> with_reducible rfl)
            try simp only [Act.put, List.setIfInBounds_toArray, List.set_cons_zero, List.set_cons_succ]
            refine wpAnyH_take (i := 10) (oi := { dst := some 37, op := Op.binOp BinOp.neq 37 (Operand.tmp 31) (Operand.tmp 36) 37, type := 4, pos := "ref.go:31", after := _, guard := none }) (v := ?vcr10) rfl (by kernel_rfl) (by kernel_rfl) (by kernel_rfl) (fun _ _ _ h => h) (Or.inl ⟨by rfl, ?hycr10⟩) (by assumption) ?restcr10
            case hycr10 => (intro w hSw; (try dsimp only at hSw); go_simp <;> with_reducible rfl)
            try simp only [Act.put, List.setIfInBounds_toArray, List.set_cons_zero, List.set_cons_succ]
            refine wpAnyH_done (by kernel_rfl) ?_ _
            go_wp2
            go_ret
            refine ⟨?_, HB.out.trans (BW.out.drew.mono HB.out.size)⟩
            have : eqL pgEq xs ys = false := by
              cases he : eqL pgEq xs ys with
              | false => rfl
              | true =>
                have := eqL_at HL.out kk hlt1 he
                rw [HX.out, HY.out, HQ.out] at this
                exact this.symm
            rw [this]
            rfl
        · have hltz : ¬ (kk : Int) < (n : Int) := by omega
          obtain rfl : n = kk := by omega
          clear HP1 HP2
          go_wp2
          go_ret
          refine ⟨?_, HB.out.trans (BW.out.mono HB.out.size)⟩
          rw [eqL_all HL.out (fun j h => AA.out j h (by rw [← HL.out]; exact h) (by rw [HN.out] at h; exact h))]
          rfl
    · have he : eqL pgEq xs ys = false := by
        cases h : eqL pgEq xs ys with
        | false => rfl
        | true => exact absurd (eqL_len h) hlen
      rw [he]
      clear hv1 hv2 he
      generalize xs.length = n at *
      generalize ys.length = m at *
      have hne : ((n : Int) != (m : Int)) = true := by simp; omega
      clear hlen
      go_enter Try.func23, Try.ntmps23
      go_wp2
      go_ret
      exact ⟨rfl, hb0⟩

set_option maxHeartbeats 4000000 in
theorem RUsed_any (v : Value) (cap : Int) (ps : List Pg) (w : World) (hv : StV w v cap ps) :
    Calls Try.prog 26 #[v] w fun e w' => e = .returned (.int .i64 (usedL cap ps)) ∧ Below w.heap.size w w' := by
  obtain ⟨A, c, rfl, hv⟩ := hv.form
  have hb0 : Below w.heap.size w (w.alloc (.cells #[.int .i64 cap, .slice A ps.length c] 25)) := (Below.refl _ w).alloc (Nat.le_refl _) _
  have hmay := rmay_any cap (.slice A ps.length c) ps _ (hv.sl.below hb0)
  have HP := Lib.hid (fun h : 0 < ps.length => Sl.pos encP encP_len hv.sl h)
  obtain ⟨_, _, _, hc, hmx⟩ := hv.sl.form
  have hbig : ps.length ≤ 9223372036854775807 := by unfold maxLen at hmx; omega
  have HM := Lib.hid (show ∀ j (h : j < ps.length), mayP cap ps = true → 0 ≤ ps[j].r from fun j h hm => (odd_bounds (may_odd hm j h)).1)
  clear hv hc hmx
  cases hm : mayP cap ps with
  | false =>
    rw [show usedL cap ps = 0 from by simp [usedL, hm]]
    rw [hm] at hmay
    clear hm HP HM
    generalize ps.length = n at *
    go_enter Try.func26, Try.ntmps26
    go_wp2_with fail
    refine hmay.mono ?_
    rintro e w1 ⟨rfl, hb1⟩
    have hY := hb0.trans (hb1.mono (by simp))
    have kA : Blk w1 w.heap.size 25 #[.int .i64 cap, .slice A n c] := (Blk.new_ w _ _ _ rfl).keep hb1
    have s0 : w1.cell? ⟨w.heap.size, 0, none⟩ = some (.int .i64 cap) := by rw [kA.cell]; rfl
    have sf0 : w1.frozen? ⟨w.heap.size, 0, none⟩ = false := kA.free 0
    have s1 : w1.cell? ⟨w.heap.size, 1, none⟩ = some (.slice A n c) := by rw [kA.cell]; rfl
    have sf1 : w1.frozen? ⟨w.heap.size, 1, none⟩ = false := kA.free 1
    go_wp2
    refine wp_loop_rounds 1 ?_
    rw [rounds_succ]
    go_wp2
    all_goals
      go_ret
      exact ⟨rfl, hY⟩
  | true =>
    rw [hm] at hmay
    have HU := Lib.hid (show usedL cap ps = usedN ps from by simp [usedL, hm])
    have HMM := Lib.hid hm
    have hul := usedN_le ps
    clear hm
    obtain ⟨n, hnl⟩ : ∃ n, ps.length = n := ⟨_, rfl⟩
    have HN := Lib.hid hnl
    rw [hnl] at hmay hb0 hbig ⊢
    clear hnl
    go_enter Try.func26, Try.ntmps26
    go_wp2_with fail
    refine hmay.mono ?_
    rintro e w1 ⟨rfl, hb1⟩
    have hY := hb0.trans (hb1.mono (by simp))
    have kA : Blk w1 w.heap.size 25 #[.int .i64 cap, .slice A n c] := (Blk.new_ w _ _ _ rfl).keep hb1
    have la := kA.lt
    have s0 : w1.cell? ⟨w.heap.size, 0, none⟩ = some (.int .i64 cap) := by rw [kA.cell]; rfl
    have sf0 : w1.frozen? ⟨w.heap.size, 0, none⟩ = false := kA.free 0
    have s1 : w1.cell? ⟨w.heap.size, 1, none⟩ = some (.slice A n c) := by rw [kA.cell]; rfl
    have sf1 : w1.frozen? ⟨w.heap.size, 1, none⟩ = false := kA.free 1
    have HY := Lib.hid hY
    clear hmay hb0 hb1 kA hY
    go_wp2
    go_loopg [3, 5] n (fun gg s3 s5 wr => ∃ kk : Nat, kk ≤ n ∧ n - kk ≤ gg ∧ s5 = .int .i64 kk ∧ w1 = wr ∧ s3 = .int .i64 (usedN (ps.take kk)))
    case atStart => exact ⟨0, Nat.zero_le _, by omega, rfl, rfl, rfl⟩
    case round =>
      obtain ⟨kk, hkk, hg, rfl, hw, rfl⟩ := hrel
      subst hw
      have hu1 : usedN (ps.take kk) ≤ kk := Nat.le_trans (usedN_le _) (by simp; omega)
      by_cases hlt : kk < n
      · have hltz : (kk : Int) < (n : Int) := by omega
        have hgez : (0 : Int) ≤ (kk : Int) := by omega
        have hk : kk < ps.length := by rw [HN.out]; exact hlt
        obtain ⟨b, o, rfl, hb, hel⟩ := HP.out (by omega)
        have e0 := hel w1 HY.out kk hk 0 _ rfl
        simp only [Nat.add_zero] at e0
        have hbw : b < w1.heap.size := Nat.lt_of_lt_of_le hb HY.out.size
        have HUT := Lib.hid (usedN_take ps kk hk)
        have hr0 := HM.out kk hk HMM.out
        clear hel HP
        generalize hx : ps[kk] = x at e0 HUT hr0
        have HX := Lib.hid hx
        clear hx
        generalize hq : usedN (ps.take kk) = q at hu1 HUT
        by_cases h0 : 0 < x.r
        · go_wp2
          go_roundg (n - (kk + 1))
          case measure => omega
          case rel => exact ⟨kk + 1, by omega, by omega, by go_num, rfl, by rw [HUT.out, if_neg (by omega)]; go_num⟩
        · go_wp2
          go_roundg (n - (kk + 1))
          case measure => omega
          case rel => exact ⟨kk + 1, by omega, by omega, by go_num, rfl, by rw [HUT.out, if_pos (by omega)]; go_num⟩
      · obtain rfl : n = kk := by omega
        have hltz : ¬ (n : Int) < (n : Int) := by omega
        clear HP
        go_wp2
        go_ret
        rw [HU.out, List.take_of_length_le (by rw [HN.out]; exact Nat.le_refl _)]
        exact ⟨rfl, HY.out⟩

end Go.Proofs.Ytelfkopoppfaaaa
