/- serial.agree. -/
import Derived.Test.YtmcbnpeihedcaaaSrState
import Derived.Deep.RegionHeld3
import Derived.Deep.DrawnRows
namespace Go.Proofs.Ytmcbnpeihedcaaa
open Go Go.RowKit
set_option linter.unusedVariables false

set_option maxHeartbeats 1000000 in
theorem index_pair (p : Pr → Bool) (g : Nat) (lb : Array Value) (eg : ∀ args w, (callFunc g args).run Try.prog w = .ok (.enter g args) w) (v : Value) (zs : List (Pr)) (w : World)
    (hp : PredB Try.prog g lb (fun x : Pr => Value.agg (encPr x).toArray) p w) (hv : Sl w 2 v zs.length (zs.flatMap encPr)) :
    Calls Try.prog 51 #[v, .func (.func g) #[] lb] w fun e w' => e = .returned (.int .i64 (idxF p zs)) ∧ Below w.heap.size w w' := by
  have hk : ∀ x, (encPr x).length = 2 := fun _ => rfl
  obtain ⟨hl, ⟨rfl, hz⟩ | ⟨a, c, rfl, hc, hm, hr⟩⟩ := hv
  · obtain rfl : zs = [] := List.eq_nil_of_length_eq_zero hz
    clear hl hz
    go_enter Try.func51, Try.ntmps51
    go_wp2
    refine wp_loop_rounds 1 ?_
    rw [rounds_succ]
    go_wp2
    go_ret
    exact ⟨rfl, Below.refl _ _⟩
  · obtain ⟨n, hn⟩ : ∃ n, zs.length = n := ⟨_, rfl⟩
    rw [hn] at hl hc hr ⊢
    have hbig : n ≤ 9223372036854775807 := by unfold maxLen at hm; omega
    have hrow : ∀ (W : World), Below w.heap.size w W → ∀ j (hj : j < zs.length), a.spot = none ∧ ∀ i u, (encPr zs[j])[i]? = some u → W.cell? ⟨a.block, a.off + j * 2 + i, none⟩ = some u := fun W hW j hj => by
      obtain ⟨hs, hC⟩ := hr (by omega)
      refine ⟨hs, fun i u hi => ?_⟩
      rw [Nat.add_assoc]
      exact (hC.same hW).2 _ _ (flat_get encPr hk zs j hj i u hi)
    clear hr
    have HN := Lib.hid hn
    clear hn hl hk hm hc
    go_enter Try.func51, Try.ntmps51
    go_wp2
    go_loopg [5, 8] n (fun gg _ s8 wr => ∃ kk : Nat, kk ≤ n ∧ n - kk ≤ gg ∧ s8 = .int .i64 kk ∧ Hid (Below w.heap.size w wr) ∧ Hid (∀ j (h : j < zs.length), j < kk → p zs[j] = false))
    case atStart => exact ⟨0, Nat.zero_le _, by omega, rfl, Below.refl _ w, fun j _ hj => absurd hj (Nat.not_lt_zero _)⟩
    case round =>
      obtain ⟨kk, hkk, hg, rfl, BW, AA⟩ := hrel
      by_cases hlt : kk < n
      · have hltz : (kk : Int) < (n : Int) := by omega
        have hlt' : kk < zs.length := by rw [HN.out]; exact hlt
        obtain ⟨hs, l2⟩ := hrow wr BW.out kk hlt'
        have hcall := hp wr zs[kk] BW.out
        clear hrow hp
        obtain ⟨b, o, s⟩ := a
        simp only at hs l2
        subst hs
        generalize hy : zs[kk] = y at l2 hcall
        have B : Hid (zs[kk] = y) := hy
        clear hy
        (have c0 := l2 0 _ rfl; have c1 := l2 1 _ rfl; simp only [Nat.add_zero] at c0)
        clear l2
        cases hq : p y with
        | true =>
          rw [hq] at hcall
          have HQ := Lib.hid hq
          clear hq
          go_wp2_with (go_at_fn g; refine hcall.mono ?_; rintro e w' ⟨rfl, hb'⟩)
          go_ret
          refine ⟨?_, BW.out.trans (hb'.mono BW.out.size)⟩
          rw [idxF_hit p zs kk hlt' (by rw [B.out]; exact HQ.out) (fun j hj => AA.out j (by omega) hj)]
          rfl
        | false =>
          rw [hq] at hcall
          have HQ := Lib.hid hq
          clear hq
          go_wp2_with (go_at_fn g; refine hcall.mono ?_; rintro e w' ⟨rfl, hb'⟩)
          go_roundg (n - (kk + 1))
          case measure => omega
          case rel =>
            refine ⟨kk + 1, by omega, by omega, by go_num, BW.out.trans (hb'.mono BW.out.size), (show Hid _ from fun j h hj => ?_)⟩
            by_cases e : j = kk
            · subst e
              rw [B.out]; exact HQ.out
            · exact AA.out j h (by omega)
      · have hltz : ¬ (kk : Int) < (n : Int) := by omega
        obtain rfl : n = kk := by omega
        go_wp2
        go_ret
        refine ⟨?_, BW.out⟩
        rw [idxF_miss p zs (fun j h => AA.out j h (by rw [HN.out] at h; exact h))]
        rfl
set_option maxHeartbeats 400000 in
theorem contains_pair (p : Pr → Bool) (g : Nat) (lb : Array Value) (eg : ∀ args w, (callFunc g args).run Try.prog w = .ok (.enter g args) w) (v : Value) (zs : List (Pr)) (w : World)
    (hp : PredB Try.prog g lb (fun x : Pr => Value.agg (encPr x).toArray) p w) (hv : Sl w 2 v zs.length (zs.flatMap encPr)) :
    Calls Try.prog 34 #[v, .func (.func g) #[] lb] w fun e w' => e = .returned (.bool (zs.any p)) ∧ Below w.heap.size w w' := by
  rw [← idxF_any]
  have hcon := index_pair p g lb eg v zs w hp hv
  clear hp hv eg
  generalize idxF p zs = r at hcon ⊢
  go_enter Try.func34, Try.ntmps34
  go_wp2_with (go_at_call 51; refine hcon.mono ?_; rintro e w' ⟨rfl, hb'⟩)
  go_ret
  exact ⟨rfl, hb'⟩

/-- Does a pair not agree with words? -/
def badW (l : List Int) (p : Pr) : Bool := decide (p.at_ < 0) || (decide ((l.length : Int) ≤ p.at_) || !(l.getD p.at_.toNat 0 == p.v))
def agreeL (R : List Pr) (l : List Int) : Bool := !R.any (badW l)

section
attribute [local go_sem ↓] Go.wp_at_zero Go.wp_at_succ
set_option maxRecDepth 100000 in
set_option maxHeartbeats 2000000 in
theorem agree1_any (p : Pr) (A : Option Addr) (c B : Nat) (l : List Int) (w : World) (hB : B < w.heap.size) (hc : w.cell? ⟨B, 0, none⟩ = some (.slice A l.length c)) (hv : Sl w 1 (.slice A l.length c) l.length (l.flatMap encI)) :
    Calls Try.prog 35 #[.agg (encPr p).toArray, .pointer (some ⟨B, 0, none⟩)] w fun e w' => e = .returned (.bool (badW l p)) ∧ Below w.heap.size w w' := by
  have hb0 : Below w.heap.size w (w.alloc (.cells (encPr p).toArray 34)) := (Below.refl _ w).alloc (Nat.le_refl _) _
  have hbd : ∀ W, Below w.heap.size w W → W.cell? ⟨B, 0, none⟩ = some (.slice A l.length c) := fun W h => (h.cell (p := ⟨B, 0, none⟩) hB).trans hc
  have kB := Blk.new_ w 34 (encPr p).toArray _ rfl
  obtain ⟨w1, hw1⟩ : ∃ x, w.alloc (.cells (encPr p).toArray 34) = x := ⟨_, rfl⟩
  have HB0 := Lib.hid hb0
  rw [hw1] at hb0 kB
  have s0 := hbd w1 hb0
  have p0 : w1.cell? ⟨w.heap.size, 0, none⟩ = some (.int .i64 p.at_) := by rw [kB.cell]; rfl
  have p1 : w1.cell? ⟨w.heap.size, 1, none⟩ = some (.int .i64 p.v) := by rw [kB.cell]; rfl
  have HW := Lib.hid hw1
  have HB1 := Lib.hid hb0
  have hE := fun h0 : 0 < l.length => Sl.pos encI encI_len hv h0
  obtain ⟨n, hn⟩ : ∃ n, n = l.length := ⟨_, rfl⟩
  have HN := Lib.hid hn
  have HE := Lib.hid hE
  rw [← hn] at s0
  simp only [encPr] at HW ⊢
  clear hc hv hb0 hbd kB hw1 hE hn
  by_cases c1 : p.at_ < 0
  · rw [show badW l p = true from by simp [badW, c1]]
    go_enter Try.func35, Try.ntmps35
    go_wp2_with fail
    rw [HW.out]
    refine wp_region_held_drew (S := fun w' => w'.cell? ⟨w.heap.size, 0, none⟩ = some (.int .i64 p.at_)) (by kernel_rfl) ?_ (fun hHeldbr => ?_)
    · exact p0
    refine wpAnyH_take (i := 0) (oi := { dst := some 4, op := Op.fieldAddr 34 (Operand.tmp 2) 0, type := 0, pos := "serial.go:44", after := _, guard := none }) (v := ?vbr0) rfl (by kernel_rfl) (by kernel_rfl) (by kernel_rfl) (fun _ _ _ h => h) (Or.inl ⟨by rfl, ?hybr0⟩) (by assumption) ?restbr0
    case hybr0 => (intro w hSw; (try dsimp only at hSw); go_simp <;> with_reducible rfl)
    try simp only [Act.put, List.setIfInBounds_toArray, List.set_cons_zero, List.set_cons_succ]
    refine wpAnyH_take (i := 1) (oi := { dst := some 5, op := Op.load 3 (Operand.tmp 4), type := 3, pos := "serial.go:44", after := _, guard := none }) (v := ?vbr1) rfl (by kernel_rfl) (by kernel_rfl) (by kernel_rfl) (fun _ _ _ h => h) (Or.inl ⟨by rfl, ?hybr1⟩) (by assumption) ?restbr1
    case hybr1 => (intro w hSw; (try dsimp only at hSw); go_simp <;> with_reducible rfl)
    try simp only [Act.put, List.setIfInBounds_toArray, List.set_cons_zero, List.set_cons_succ]
    refine wpAnyH_take (i := 2) (oi := { dst := some 6, op := Op.binOp BinOp.lss 3 (Operand.tmp 5) (Operand.const (Value.int IntKind.i64 0)) 3, type := 4, pos := "serial.go:44", after := _, guard := none }) (v := .bool true) rfl (by kernel_rfl) (by kernel_rfl) (by kernel_rfl) (fun _ _ _ h => h) (Or.inl ⟨by rfl, ?hybr2⟩) (by assumption) ?restbr2
    case hybr2 => (intro w hSw; (try dsimp only at hSw); go_simp <;> first | done | with_reducible rfl | omega | (simp; done) | (simp; omega) | (simp [*]; done) | (simp [*]; omega) | exact decide_eq_false (by omega) | exact decide_eq_true (by omega))
    try simp only [Act.put, List.setIfInBounds_toArray, List.set_cons_zero, List.set_cons_succ]
    refine wpAnyH_take (i := 3) (oi := { dst := some 7, op := Op.move (Operand.tmp 6), type := 4, pos := "serial.go:44", after := _, guard := none }) (v := ?vbr3) rfl (by kernel_rfl) (by kernel_rfl) (by kernel_rfl) (fun _ _ _ h => h) (Or.inl ⟨by rfl, ?hybr3⟩) (by assumption) ?restbr3
    case hybr3 => (intro w hSw; (try dsimp only at hSw); go_simp <;> with_reducible rfl)
    try simp only [Act.put, List.setIfInBounds_toArray, List.set_cons_zero, List.set_cons_succ]
    refine wpAnyH_take (i := 4) (oi := { dst := some 8, op := Op.fieldAddr 34 (Operand.tmp 2) 0, type := 0, pos := "serial.go:44", after := _, guard := some (3, false) }) rfl (by kernel_rfl) (by kernel_rfl) (by kernel_rfl) (fun _ _ _ h => h) (Or.inr ⟨by rfl, rfl⟩) (by assumption) ?_
    try simp only [Act.put, List.setIfInBounds_toArray, List.set_cons_zero, List.set_cons_succ]
    refine wpAnyH_take (i := 5) (oi := { dst := some 9, op := Op.load 3 (Operand.tmp 8), type := 3, pos := "serial.go:44", after := _, guard := some (3, false) }) rfl (by kernel_rfl) (by kernel_rfl) (by kernel_rfl) (fun _ _ _ h => h) (Or.inr ⟨by rfl, rfl⟩) (by assumption) ?_
    try simp only [Act.put, List.setIfInBounds_toArray, List.set_cons_zero, List.set_cons_succ]
    refine wpAnyH_take (i := 6) (oi := { dst := some 10, op := Op.load 29 (Operand.tmp 1), type := 29, pos := "serial.go:44", after := _, guard := some (3, false) }) rfl (by kernel_rfl) (by kernel_rfl) (by kernel_rfl) (fun _ _ _ h => h) (Or.inr ⟨by rfl, rfl⟩) (by assumption) ?_
    try simp only [Act.put, List.setIfInBounds_toArray, List.set_cons_zero, List.set_cons_succ]
    refine wpAnyH_take (i := 7) (oi := { dst := some 11, op := Op.call { callee := Callee.builtin Builtin.len, args := #[Operand.tmp 10], argTypes := #[29] }, type := 3, pos := "serial.go:44", after := _, guard := some (3, false) }) rfl (by kernel_rfl) (by kernel_rfl) (by kernel_rfl) (fun _ _ _ h => h) (Or.inr ⟨by rfl, rfl⟩) (by assumption) ?_
    try simp only [Act.put, List.setIfInBounds_toArray, List.set_cons_zero, List.set_cons_succ]
    refine wpAnyH_take (i := 8) (oi := { dst := some 12, op := Op.binOp BinOp.geq 3 (Operand.tmp 9) (Operand.tmp 11) 3, type := 4, pos := "serial.go:44", after := _, guard := some (3, false) }) rfl (by kernel_rfl) (by kernel_rfl) (by kernel_rfl) (fun _ _ _ h => h) (Or.inr ⟨by rfl, rfl⟩) (by assumption) ?_
    try simp only [Act.put, List.setIfInBounds_toArray, List.set_cons_zero, List.set_cons_succ]
    refine wpAnyH_take (i := 9) (oi := { dst := some 13, op := Op.pick (Operand.tmp 7) (Operand.const (Value.bool true)) (Operand.tmp 12), type := 4, pos := "serial.go:44", after := _, guard := none }) (v := ?vbr9) rfl (by kernel_rfl) (by kernel_rfl) (by kernel_rfl) (fun _ _ _ h => h) (Or.inl ⟨by rfl, ?hybr9⟩) (by assumption) ?restbr9
    case hybr9 => (intro w hSw; (try dsimp only at hSw); go_simp <;> with_reducible rfl)
    try simp only [Act.put, List.setIfInBounds_toArray, List.set_cons_zero, List.set_cons_succ]
    refine wpAnyH_take (i := 10) (oi := { dst := some 14, op := Op.move (Operand.tmp 13), type := 4, pos := "serial.go:44", after := _, guard := none }) (v := ?vbr10) rfl (by kernel_rfl) (by kernel_rfl) (by kernel_rfl) (fun _ _ _ h => h) (Or.inl ⟨by rfl, ?hybr10⟩) (by assumption) ?restbr10
    case hybr10 => (intro w hSw; (try dsimp only at hSw); go_simp <;> with_reducible rfl)
    try simp only [Act.put, List.setIfInBounds_toArray, List.set_cons_zero, List.set_cons_succ]
    refine wpAnyH_take (i := 11) (oi := { dst := some 15, op := Op.load 29 (Operand.tmp 1), type := 29, pos := "serial.go:44", after := _, guard := some (10, false) }) rfl (by kernel_rfl) (by kernel_rfl) (by kernel_rfl) (fun _ _ _ h => h) (Or.inr ⟨by rfl, rfl⟩) (by assumption) ?_
    try simp only [Act.put, List.setIfInBounds_toArray, List.set_cons_zero, List.set_cons_succ]
    refine wpAnyH_take (i := 12) (oi := { dst := some 16, op := Op.fieldAddr 34 (Operand.tmp 2) 0, type := 0, pos := "serial.go:44", after := _, guard := some (10, false) }) rfl (by kernel_rfl) (by kernel_rfl) (by kernel_rfl) (fun _ _ _ h => h) (Or.inr ⟨by rfl, rfl⟩) (by assumption) ?_
    try simp only [Act.put, List.setIfInBounds_toArray, List.set_cons_zero, List.set_cons_succ]
    refine wpAnyH_take (i := 13) (oi := { dst := some 17, op := Op.load 3 (Operand.tmp 16), type := 3, pos := "serial.go:44", after := _, guard := some (10, false) }) rfl (by kernel_rfl) (by kernel_rfl) (by kernel_rfl) (fun _ _ _ h => h) (Or.inr ⟨by rfl, rfl⟩) (by assumption) ?_
    try simp only [Act.put, List.setIfInBounds_toArray, List.set_cons_zero, List.set_cons_succ]
    refine wpAnyH_take (i := 14) (oi := { dst := some 18, op := Op.indexAddr 29 (Operand.tmp 15) (Operand.tmp 17), type := 0, pos := "serial.go:44", after := _, guard := some (10, false) }) rfl (by kernel_rfl) (by kernel_rfl) (by kernel_rfl) (fun _ _ _ h => h) (Or.inr ⟨by rfl, rfl⟩) (by assumption) ?_
    try simp only [Act.put, List.setIfInBounds_toArray, List.set_cons_zero, List.set_cons_succ]
    refine wpAnyH_take (i := 15) (oi := { dst := some 19, op := Op.load 3 (Operand.tmp 18), type := 3, pos := "serial.go:44", after := _, guard := some (10, false) }) rfl (by kernel_rfl) (by kernel_rfl) (by kernel_rfl) (fun _ _ _ h => h) (Or.inr ⟨by rfl, rfl⟩) (by assumption) ?_
    try simp only [Act.put, List.setIfInBounds_toArray, List.set_cons_zero, List.set_cons_succ]
    refine wpAnyH_take (i := 16) (oi := { dst := some 20, op := Op.fieldAddr 34 (Operand.tmp 2) 1, type := 0, pos := "serial.go:44", after := _, guard := some (10, false) }) rfl (by kernel_rfl) (by kernel_rfl) (by kernel_rfl) (fun _ _ _ h => h) (Or.inr ⟨by rfl, rfl⟩) (by assumption) ?_
    try simp only [Act.put, List.setIfInBounds_toArray, List.set_cons_zero, List.set_cons_succ]
    refine wpAnyH_take (i := 17) (oi := { dst := some 21, op := Op.load 3 (Operand.tmp 20), type := 3, pos := "serial.go:44", after := _, guard := some (10, false) }) rfl (by kernel_rfl) (by kernel_rfl) (by kernel_rfl) (fun _ _ _ h => h) (Or.inr ⟨by rfl, rfl⟩) (by assumption) ?_
    try simp only [Act.put, List.setIfInBounds_toArray, List.set_cons_zero, List.set_cons_succ]
    refine wpAnyH_take (i := 18) (oi := { dst := some 22, op := Op.binOp BinOp.neq 3 (Operand.tmp 19) (Operand.tmp 21) 3, type := 4, pos := "serial.go:44", after := _, guard := some (10, false) }) rfl (by kernel_rfl) (by kernel_rfl) (by kernel_rfl) (fun _ _ _ h => h) (Or.inr ⟨by rfl, rfl⟩) (by assumption) ?_
    try simp only [Act.put, List.setIfInBounds_toArray, List.set_cons_zero, List.set_cons_succ]
    refine wpAnyH_take (i := 19) (oi := { dst := some 23, op := Op.pick (Operand.tmp 14) (Operand.const (Value.bool true)) (Operand.tmp 22), type := 4, pos := "serial.go:44", after := _, guard := none }) (v := ?vbr19) rfl (by kernel_rfl) (by kernel_rfl) (by kernel_rfl) (fun _ _ _ h => h) (Or.inl ⟨by rfl, ?hybr19⟩) (by assumption) ?restbr19
    case hybr19 => (intro w hSw; (try dsimp only at hSw); go_simp <;> with_reducible rfl)
    try simp only [Act.put, List.setIfInBounds_toArray, List.set_cons_zero, List.set_cons_succ]
    refine wpAnyH_take (i := 20) (oi := { dst := some 3, op := Op.assign (Operand.tmp 23), type := 4, pos := "serial.go:44", after := _, guard := none }) (v := ?vbr20) rfl (by kernel_rfl) (by kernel_rfl) (by kernel_rfl) (fun _ _ _ h => h) (Or.inl ⟨by rfl, ?hybr20⟩) (by assumption) ?restbr20
    case hybr20 => (intro w hSw; (try dsimp only at hSw); go_simp <;> with_reducible rfl)
    try simp only [Act.put, List.setIfInBounds_toArray, List.set_cons_zero, List.set_cons_succ]
    refine wpAnyH_done (by kernel_rfl) ?_ _
    go_wp2
    go_ret
    exact ⟨rfl, HB1.out.drew⟩
  · by_cases c2 : (n : Int) ≤ p.at_
    · rw [show badW l p = true from by have := HN.out; simp [badW]; omega]
      go_enter Try.func35, Try.ntmps35
      go_wp2_with fail
      rw [HW.out]
      refine wp_region_held_drew (S := fun w' => w'.cell? ⟨w.heap.size, 0, none⟩ = some (.int .i64 p.at_) ∧ w'.cell? ⟨B, 0, none⟩ = some (.slice A n c)) (by kernel_rfl) ?_ (fun hHeldcr => ?_)
      · exact ⟨p0, s0⟩
      refine wpAnyH_take (i := 0) (oi := { dst := some 4, op := Op.fieldAddr 34 (Operand.tmp 2) 0, type := 0, pos := "serial.go:44", after := _, guard := none }) (v := ?vcr0) rfl (by kernel_rfl) (by kernel_rfl) (by kernel_rfl) (fun _ _ _ h => h) (Or.inl ⟨by rfl, ?hycr0⟩) (by assumption) ?restcr0
      case hycr0 => (intro w hSw; (try dsimp only at hSw); go_simp <;> with_reducible rfl)
      try simp only [Act.put, List.setIfInBounds_toArray, List.set_cons_zero, List.set_cons_succ]
      refine wpAnyH_take (i := 1) (oi := { dst := some 5, op := Op.load 3 (Operand.tmp 4), type := 3, pos := "serial.go:44", after := _, guard := none }) (v := ?vcr1) rfl (by kernel_rfl) (by kernel_rfl) (by kernel_rfl) (fun _ _ _ h => h) (Or.inl ⟨by rfl, ?hycr1⟩) (by assumption) ?restcr1
      case hycr1 => (intro w hSw; (try dsimp only at hSw); go_simp <;> with_reducible rfl)
      try simp only [Act.put, List.setIfInBounds_toArray, List.set_cons_zero, List.set_cons_succ]
      refine wpAnyH_take (i := 2) (oi := { dst := some 6, op := Op.binOp BinOp.lss 3 (Operand.tmp 5) (Operand.const (Value.int IntKind.i64 0)) 3, type := 4, pos := "serial.go:44", after := _, guard := none }) (v := .bool false) rfl (by kernel_rfl) (by kernel_rfl) (by kernel_rfl) (fun _ _ _ h => h) (Or.inl ⟨by rfl, ?hycr2⟩) (by assumption) ?restcr2
      case hycr2 => (intro w hSw; (try dsimp only at hSw); go_simp <;> first | done | with_reducible rfl | omega | (simp; done) | (simp; omega) | (simp [*]; done) | (simp [*]; omega) | exact decide_eq_false (by omega) | exact decide_eq_true (by omega))
      try simp only [Act.put, List.setIfInBounds_toArray, List.set_cons_zero, List.set_cons_succ]
      refine wpAnyH_take (i := 3) (oi := { dst := some 7, op := Op.move (Operand.tmp 6), type := 4, pos := "serial.go:44", after := _, guard := none }) (v := ?vcr3) rfl (by kernel_rfl) (by kernel_rfl) (by kernel_rfl) (fun _ _ _ h => h) (Or.inl ⟨by rfl, ?hycr3⟩) (by assumption) ?restcr3
      case hycr3 => (intro w hSw; (try dsimp only at hSw); go_simp <;> with_reducible rfl)
      try simp only [Act.put, List.setIfInBounds_toArray, List.set_cons_zero, List.set_cons_succ]
      refine wpAnyH_take (i := 4) (oi := { dst := some 8, op := Op.fieldAddr 34 (Operand.tmp 2) 0, type := 0, pos := "serial.go:44", after := _, guard := some (3, false) }) (v := ?vcr4) rfl (by kernel_rfl) (by kernel_rfl) (by kernel_rfl) (fun _ _ _ h => h) (Or.inl ⟨by rfl, ?hycr4⟩) (by assumption) ?restcr4
      case hycr4 => (intro w hSw; (try dsimp only at hSw); go_simp <;> with_reducible rfl)
      try simp only [Act.put, List.setIfInBounds_toArray, List.set_cons_zero, List.set_cons_succ]
      refine wpAnyH_take (i := 5) (oi := { dst := some 9, op := Op.load 3 (Operand.tmp 8), type := 3, pos := "serial.go:44", after := _, guard := some (3, false) }) (v := ?vcr5) rfl (by kernel_rfl) (by kernel_rfl) (by kernel_rfl) (fun _ _ _ h => h) (Or.inl ⟨by rfl, ?hycr5⟩) (by assumption) ?restcr5
      case hycr5 => (intro w hSw; (try dsimp only at hSw); go_simp <;> with_reducible rfl)
      try simp only [Act.put, List.setIfInBounds_toArray, List.set_cons_zero, List.set_cons_succ]
      refine wpAnyH_take (i := 6) (oi := { dst := some 10, op := Op.load 29 (Operand.tmp 1), type := 29, pos := "serial.go:44", after := _, guard := some (3, false) }) (v := ?vcr6) rfl (by kernel_rfl) (by kernel_rfl) (by kernel_rfl) (fun _ _ _ h => h) (Or.inl ⟨by rfl, ?hycr6⟩) (by assumption) ?restcr6
      case hycr6 => (intro w hSw; (try dsimp only at hSw); go_simp <;> with_reducible rfl)
      try simp only [Act.put, List.setIfInBounds_toArray, List.set_cons_zero, List.set_cons_succ]
      refine wpAnyH_take (i := 7) (oi := { dst := some 11, op := Op.call { callee := Callee.builtin Builtin.len, args := #[Operand.tmp 10], argTypes := #[29] }, type := 3, pos := "serial.go:44", after := _, guard := some (3, false) }) (v := ?vcr7) rfl (by kernel_rfl) (by kernel_rfl) (by kernel_rfl) (fun _ _ _ h => h) (Or.inl ⟨by rfl, ?hycr7⟩) (by assumption) ?restcr7
      case hycr7 => (intro w hSw; (try dsimp only at hSw); go_simp <;> with_reducible rfl)
      try simp only [Act.put, List.setIfInBounds_toArray, List.set_cons_zero, List.set_cons_succ]
      refine wpAnyH_take (i := 8) (oi := { dst := some 12, op := Op.binOp BinOp.geq 3 (Operand.tmp 9) (Operand.tmp 11) 3, type := 4, pos := "serial.go:44", after := _, guard := some (3, false) }) (v := .bool true) rfl (by kernel_rfl) (by kernel_rfl) (by kernel_rfl) (fun _ _ _ h => h) (Or.inl ⟨by rfl, ?hycr8⟩) (by assumption) ?restcr8
      case hycr8 => (intro w hSw; (try dsimp only at hSw); go_simp <;> first | done | with_reducible rfl | omega | (simp; done) | (simp; omega) | (simp [*]; done) | (simp [*]; omega) | exact decide_eq_false (by omega) | exact decide_eq_true (by omega))
      try simp only [Act.put, List.setIfInBounds_toArray, List.set_cons_zero, List.set_cons_succ]
      refine wpAnyH_take (i := 9) (oi := { dst := some 13, op := Op.pick (Operand.tmp 7) (Operand.const (Value.bool true)) (Operand.tmp 12), type := 4, pos := "serial.go:44", after := _, guard := none }) (v := ?vcr9) rfl (by kernel_rfl) (by kernel_rfl) (by kernel_rfl) (fun _ _ _ h => h) (Or.inl ⟨by rfl, ?hycr9⟩) (by assumption) ?restcr9
      case hycr9 => (intro w hSw; (try dsimp only at hSw); go_simp <;> with_reducible rfl)
      try simp only [Act.put, List.setIfInBounds_toArray, List.set_cons_zero, List.set_cons_succ]
      refine wpAnyH_take (i := 10) (oi := { dst := some 14, op := Op.move (Operand.tmp 13), type := 4, pos := "serial.go:44", after := _, guard := none }) (v := ?vcr10) rfl (by kernel_rfl) (by kernel_rfl) (by kernel_rfl) (fun _ _ _ h => h) (Or.inl ⟨by rfl, ?hycr10⟩) (by assumption) ?restcr10
      case hycr10 => (intro w hSw; (try dsimp only at hSw); go_simp <;> with_reducible rfl)
      try simp only [Act.put, List.setIfInBounds_toArray, List.set_cons_zero, List.set_cons_succ]
      refine wpAnyH_take (i := 11) (oi := { dst := some 15, op := Op.load 29 (Operand.tmp 1), type := 29, pos := "serial.go:44", after := _, guard := some (10, false) }) rfl (by kernel_rfl) (by kernel_rfl) (by kernel_rfl) (fun _ _ _ h => h) (Or.inr ⟨by rfl, rfl⟩) (by assumption) ?_
      try simp only [Act.put, List.setIfInBounds_toArray, List.set_cons_zero, List.set_cons_succ]
      refine wpAnyH_take (i := 12) (oi := { dst := some 16, op := Op.fieldAddr 34 (Operand.tmp 2) 0, type := 0, pos := "serial.go:44", after := _, guard := some (10, false) }) rfl (by kernel_rfl) (by kernel_rfl) (by kernel_rfl) (fun _ _ _ h => h) (Or.inr ⟨by rfl, rfl⟩) (by assumption) ?_
      try simp only [Act.put, List.setIfInBounds_toArray, List.set_cons_zero, List.set_cons_succ]
      refine wpAnyH_take (i := 13) (oi := { dst := some 17, op := Op.load 3 (Operand.tmp 16), type := 3, pos := "serial.go:44", after := _, guard := some (10, false) }) rfl (by kernel_rfl) (by kernel_rfl) (by kernel_rfl) (fun _ _ _ h => h) (Or.inr ⟨by rfl, rfl⟩) (by assumption) ?_
      try simp only [Act.put, List.setIfInBounds_toArray, List.set_cons_zero, List.set_cons_succ]
      refine wpAnyH_take (i := 14) (oi := { dst := some 18, op := Op.indexAddr 29 (Operand.tmp 15) (Operand.tmp 17), type := 0, pos := "serial.go:44", after := _, guard := some (10, false) }) rfl (by kernel_rfl) (by kernel_rfl) (by kernel_rfl) (fun _ _ _ h => h) (Or.inr ⟨by rfl, rfl⟩) (by assumption) ?_
      try simp only [Act.put, List.setIfInBounds_toArray, List.set_cons_zero, List.set_cons_succ]
      refine wpAnyH_take (i := 15) (oi := { dst := some 19, op := Op.load 3 (Operand.tmp 18), type := 3, pos := "serial.go:44", after := _, guard := some (10, false) }) rfl (by kernel_rfl) (by kernel_rfl) (by kernel_rfl) (fun _ _ _ h => h) (Or.inr ⟨by rfl, rfl⟩) (by assumption) ?_
      try simp only [Act.put, List.setIfInBounds_toArray, List.set_cons_zero, List.set_cons_succ]
      refine wpAnyH_take (i := 16) (oi := { dst := some 20, op := Op.fieldAddr 34 (Operand.tmp 2) 1, type := 0, pos := "serial.go:44", after := _, guard := some (10, false) }) rfl (by kernel_rfl) (by kernel_rfl) (by kernel_rfl) (fun _ _ _ h => h) (Or.inr ⟨by rfl, rfl⟩) (by assumption) ?_
      try simp only [Act.put, List.setIfInBounds_toArray, List.set_cons_zero, List.set_cons_succ]
      refine wpAnyH_take (i := 17) (oi := { dst := some 21, op := Op.load 3 (Operand.tmp 20), type := 3, pos := "serial.go:44", after := _, guard := some (10, false) }) rfl (by kernel_rfl) (by kernel_rfl) (by kernel_rfl) (fun _ _ _ h => h) (Or.inr ⟨by rfl, rfl⟩) (by assumption) ?_
      try simp only [Act.put, List.setIfInBounds_toArray, List.set_cons_zero, List.set_cons_succ]
      refine wpAnyH_take (i := 18) (oi := { dst := some 22, op := Op.binOp BinOp.neq 3 (Operand.tmp 19) (Operand.tmp 21) 3, type := 4, pos := "serial.go:44", after := _, guard := some (10, false) }) rfl (by kernel_rfl) (by kernel_rfl) (by kernel_rfl) (fun _ _ _ h => h) (Or.inr ⟨by rfl, rfl⟩) (by assumption) ?_
      try simp only [Act.put, List.setIfInBounds_toArray, List.set_cons_zero, List.set_cons_succ]
      refine wpAnyH_take (i := 19) (oi := { dst := some 23, op := Op.pick (Operand.tmp 14) (Operand.const (Value.bool true)) (Operand.tmp 22), type := 4, pos := "serial.go:44", after := _, guard := none }) (v := ?vcr19) rfl (by kernel_rfl) (by kernel_rfl) (by kernel_rfl) (fun _ _ _ h => h) (Or.inl ⟨by rfl, ?hycr19⟩) (by assumption) ?restcr19
      case hycr19 => (intro w hSw; (try dsimp only at hSw); go_simp <;> with_reducible rfl)
      try simp only [Act.put, List.setIfInBounds_toArray, List.set_cons_zero, List.set_cons_succ]
      refine wpAnyH_take (i := 20) (oi := { dst := some 3, op := Op.assign (Operand.tmp 23), type := 4, pos := "serial.go:44", after := _, guard := none }) (v := ?vcr20) rfl (by kernel_rfl) (by kernel_rfl) (by kernel_rfl) (fun _ _ _ h => h) (Or.inl ⟨by rfl, ?hycr20⟩) (by assumption) ?restcr20
      case hycr20 => (intro w hSw; (try dsimp only at hSw); go_simp <;> with_reducible rfl)
      try simp only [Act.put, List.setIfInBounds_toArray, List.set_cons_zero, List.set_cons_succ]
      refine wpAnyH_done (by kernel_rfl) ?_ _
      go_wp2
      go_ret
      exact ⟨rfl, HB1.out.drew⟩
    · obtain ⟨q, hq⟩ := Int.eq_ofNat_of_zero_le (Int.not_lt.1 c1)
      have hql : q < l.length := by have := HN.out; omega
      obtain ⟨b, o, rfl, hb, hel⟩ := HE.out (by omega)
      have e0 := hel w1 HB1.out q hql 0 _ rfl
      simp only [Nat.add_zero, Nat.mul_one] at e0
      obtain ⟨u, hu⟩ : ∃ u, u = l[q] := ⟨_, rfl⟩
      rw [← hu] at e0
      obtain ⟨r, hr⟩ : ∃ r, r = (u != p.v) := ⟨_, rfl⟩
      have hrr : (u != p.v) = r := hr.symm
      rw [show badW l p = r from by
        have := HN.out
        rw [hr, hu]
        simp only [badW, hq, Int.toNat_natCast, List.getD_eq_getElem?_getD, List.getElem?_eq_getElem hql]
        rw [decide_eq_false (by omega), decide_eq_false (by omega)]
        simp [bne]]
      rw [hq] at p0 c1 c2
      have hq0 : (0 : Int) ≤ (q : Int) := by omega
      have hq1 : (q : Int) < (n : Int) := by omega
      have HWW := Lib.hid (hq ▸ HW.out : w.alloc (.cells #[.int .i64 (q : Int), .int .i64 p.v] 34) = w1)
      clear hel hu hr
      rw [hq]
      clear hq HE HW
      go_enter Try.func35, Try.ntmps35
      go_wp2_with fail
      rw [HWW.out]
      refine wp_region_held_drew (S := fun w' => w'.cell? ⟨w.heap.size, 0, none⟩ = some (.int .i64 (q : Int)) ∧ w'.cell? ⟨w.heap.size, 1, none⟩ = some (.int .i64 p.v) ∧ w'.cell? ⟨B, 0, none⟩ = some (.slice (some ⟨b, o, none⟩) n c) ∧ w'.cell? ⟨b, o + q, none⟩ = some (.int .i64 u)) (by kernel_rfl) ?_ (fun hHelddr => ?_)
      · exact ⟨p0, p1, s0, e0⟩
      refine wpAnyH_take (i := 0) (oi := { dst := some 4, op := Op.fieldAddr 34 (Operand.tmp 2) 0, type := 0, pos := "serial.go:44", after := _, guard := none }) (v := ?vdr0) rfl (by kernel_rfl) (by kernel_rfl) (by kernel_rfl) (fun _ _ _ h => h) (Or.inl ⟨by rfl, ?hydr0⟩) (by assumption) ?restdr0
      case hydr0 => (intro w hSw; (try dsimp only at hSw); go_simp <;> with_reducible rfl)
      try simp only [Act.put, List.setIfInBounds_toArray, List.set_cons_zero, List.set_cons_succ]
      refine wpAnyH_take (i := 1) (oi := { dst := some 5, op := Op.load 3 (Operand.tmp 4), type := 3, pos := "serial.go:44", after := _, guard := none }) (v := ?vdr1) rfl (by kernel_rfl) (by kernel_rfl) (by kernel_rfl) (fun _ _ _ h => h) (Or.inl ⟨by rfl, ?hydr1⟩) (by assumption) ?restdr1
      case hydr1 => (intro w hSw; (try dsimp only at hSw); go_simp <;> with_reducible rfl)
      try simp only [Act.put, List.setIfInBounds_toArray, List.set_cons_zero, List.set_cons_succ]
      refine wpAnyH_take (i := 2) (oi := { dst := some 6, op := Op.binOp BinOp.lss 3 (Operand.tmp 5) (Operand.const (Value.int IntKind.i64 0)) 3, type := 4, pos := "serial.go:44", after := _, guard := none }) (v := .bool false) rfl (by kernel_rfl) (by kernel_rfl) (by kernel_rfl) (fun _ _ _ h => h) (Or.inl ⟨by rfl, ?hydr2⟩) (by assumption) ?restdr2
      case hydr2 => (intro w hSw; (try dsimp only at hSw); go_simp <;> first | done | with_reducible rfl | omega | (simp; done) | (simp; omega) | (simp [*]; done) | (simp [*]; omega) | exact decide_eq_false (by omega) | exact decide_eq_true (by omega))
      try simp only [Act.put, List.setIfInBounds_toArray, List.set_cons_zero, List.set_cons_succ]
      refine wpAnyH_take (i := 3) (oi := { dst := some 7, op := Op.move (Operand.tmp 6), type := 4, pos := "serial.go:44", after := _, guard := none }) (v := ?vdr3) rfl (by kernel_rfl) (by kernel_rfl) (by kernel_rfl) (fun _ _ _ h => h) (Or.inl ⟨by rfl, ?hydr3⟩) (by assumption) ?restdr3
      case hydr3 => (intro w hSw; (try dsimp only at hSw); go_simp <;> with_reducible rfl)
      try simp only [Act.put, List.setIfInBounds_toArray, List.set_cons_zero, List.set_cons_succ]
      refine wpAnyH_take (i := 4) (oi := { dst := some 8, op := Op.fieldAddr 34 (Operand.tmp 2) 0, type := 0, pos := "serial.go:44", after := _, guard := some (3, false) }) (v := ?vdr4) rfl (by kernel_rfl) (by kernel_rfl) (by kernel_rfl) (fun _ _ _ h => h) (Or.inl ⟨by rfl, ?hydr4⟩) (by assumption) ?restdr4
      case hydr4 => (intro w hSw; (try dsimp only at hSw); go_simp <;> with_reducible rfl)
      try simp only [Act.put, List.setIfInBounds_toArray, List.set_cons_zero, List.set_cons_succ]
      refine wpAnyH_take (i := 5) (oi := { dst := some 9, op := Op.load 3 (Operand.tmp 8), type := 3, pos := "serial.go:44", after := _, guard := some (3, false) }) (v := ?vdr5) rfl (by kernel_rfl) (by kernel_rfl) (by kernel_rfl) (fun _ _ _ h => h) (Or.inl ⟨by rfl, ?hydr5⟩) (by assumption) ?restdr5
      case hydr5 => (intro w hSw; (try dsimp only at hSw); go_simp <;> with_reducible rfl)
      try simp only [Act.put, List.setIfInBounds_toArray, List.set_cons_zero, List.set_cons_succ]
      refine wpAnyH_take (i := 6) (oi := { dst := some 10, op := Op.load 29 (Operand.tmp 1), type := 29, pos := "serial.go:44", after := _, guard := some (3, false) }) (v := ?vdr6) rfl (by kernel_rfl) (by kernel_rfl) (by kernel_rfl) (fun _ _ _ h => h) (Or.inl ⟨by rfl, ?hydr6⟩) (by assumption) ?restdr6
      case hydr6 => (intro w hSw; (try dsimp only at hSw); go_simp <;> with_reducible rfl)
      try simp only [Act.put, List.setIfInBounds_toArray, List.set_cons_zero, List.set_cons_succ]
      refine wpAnyH_take (i := 7) (oi := { dst := some 11, op := Op.call { callee := Callee.builtin Builtin.len, args := #[Operand.tmp 10], argTypes := #[29] }, type := 3, pos := "serial.go:44", after := _, guard := some (3, false) }) (v := ?vdr7) rfl (by kernel_rfl) (by kernel_rfl) (by kernel_rfl) (fun _ _ _ h => h) (Or.inl ⟨by rfl, ?hydr7⟩) (by assumption) ?restdr7
      case hydr7 => (intro w hSw; (try dsimp only at hSw); go_simp <;> with_reducible rfl)
      try simp only [Act.put, List.setIfInBounds_toArray, List.set_cons_zero, List.set_cons_succ]
      refine wpAnyH_take (i := 8) (oi := { dst := some 12, op := Op.binOp BinOp.geq 3 (Operand.tmp 9) (Operand.tmp 11) 3, type := 4, pos := "serial.go:44", after := _, guard := some (3, false) }) (v := .bool false) rfl (by kernel_rfl) (by kernel_rfl) (by kernel_rfl) (fun _ _ _ h => h) (Or.inl ⟨by rfl, ?hydr8⟩) (by assumption) ?restdr8
      case hydr8 => (intro w hSw; (try dsimp only at hSw); go_simp <;> first | done | with_reducible rfl | omega | (simp; done) | (simp; omega) | (simp [*]; done) | (simp [*]; omega) | exact decide_eq_false (by omega) | exact decide_eq_true (by omega))
      try simp only [Act.put, List.setIfInBounds_toArray, List.set_cons_zero, List.set_cons_succ]
      refine wpAnyH_take (i := 9) (oi := { dst := some 13, op := Op.pick (Operand.tmp 7) (Operand.const (Value.bool true)) (Operand.tmp 12), type := 4, pos := "serial.go:44", after := _, guard := none }) (v := ?vdr9) rfl (by kernel_rfl) (by kernel_rfl) (by kernel_rfl) (fun _ _ _ h => h) (Or.inl ⟨by rfl, ?hydr9⟩) (by assumption) ?restdr9
      case hydr9 => (intro w hSw; (try dsimp only at hSw); go_simp <;> with_reducible rfl)
      try simp only [Act.put, List.setIfInBounds_toArray, List.set_cons_zero, List.set_cons_succ]
      refine wpAnyH_take (i := 10) (oi := { dst := some 14, op := Op.move (Operand.tmp 13), type := 4, pos := "serial.go:44", after := _, guard := none }) (v := ?vdr10) rfl (by kernel_rfl) (by kernel_rfl) (by kernel_rfl) (fun _ _ _ h => h) (Or.inl ⟨by rfl, ?hydr10⟩) (by assumption) ?restdr10
      case hydr10 => (intro w hSw; (try dsimp only at hSw); go_simp <;> with_reducible rfl)
      try simp only [Act.put, List.setIfInBounds_toArray, List.set_cons_zero, List.set_cons_succ]
      refine wpAnyH_take (i := 11) (oi := { dst := some 15, op := Op.load 29 (Operand.tmp 1), type := 29, pos := "serial.go:44", after := _, guard := some (10, false) }) (v := ?vdr11) rfl (by kernel_rfl) (by kernel_rfl) (by kernel_rfl) (fun _ _ _ h => h) (Or.inl ⟨by rfl, ?hydr11⟩) (by assumption) ?restdr11
      case hydr11 => (intro w hSw; (try dsimp only at hSw); go_simp <;> with_reducible rfl)
      try simp only [Act.put, List.setIfInBounds_toArray, List.set_cons_zero, List.set_cons_succ]
      refine wpAnyH_take (i := 12) (oi := { dst := some 16, op := Op.fieldAddr 34 (Operand.tmp 2) 0, type := 0, pos := "serial.go:44", after := _, guard := some (10, false) }) (v := ?vdr12) rfl (by kernel_rfl) (by kernel_rfl) (by kernel_rfl) (fun _ _ _ h => h) (Or.inl ⟨by rfl, ?hydr12⟩) (by assumption) ?restdr12
      case hydr12 => (intro w hSw; (try dsimp only at hSw); go_simp <;> with_reducible rfl)
      try simp only [Act.put, List.setIfInBounds_toArray, List.set_cons_zero, List.set_cons_succ]
      refine wpAnyH_take (i := 13) (oi := { dst := some 17, op := Op.load 3 (Operand.tmp 16), type := 3, pos := "serial.go:44", after := _, guard := some (10, false) }) (v := ?vdr13) rfl (by kernel_rfl) (by kernel_rfl) (by kernel_rfl) (fun _ _ _ h => h) (Or.inl ⟨by rfl, ?hydr13⟩) (by assumption) ?restdr13
      case hydr13 => (intro w hSw; (try dsimp only at hSw); go_simp <;> with_reducible rfl)
      try simp only [Act.put, List.setIfInBounds_toArray, List.set_cons_zero, List.set_cons_succ]
      refine wpAnyH_take (i := 14) (oi := { dst := some 18, op := Op.indexAddr 29 (Operand.tmp 15) (Operand.tmp 17), type := 0, pos := "serial.go:44", after := _, guard := some (10, false) }) (v := ?vdr14) rfl (by kernel_rfl) (by kernel_rfl) (by kernel_rfl) (fun _ _ _ h => h) (Or.inl ⟨by rfl, ?hydr14⟩) (by assumption) ?restdr14
      case hydr14 => (intro w hSw; (try dsimp only at hSw); go_simp <;> with_reducible rfl)
      try simp only [Act.put, List.setIfInBounds_toArray, List.set_cons_zero, List.set_cons_succ]
      refine wpAnyH_take (i := 15) (oi := { dst := some 19, op := Op.load 3 (Operand.tmp 18), type := 3, pos := "serial.go:44", after := _, guard := some (10, false) }) (v := ?vdr15) rfl (by kernel_rfl) (by kernel_rfl) (by kernel_rfl) (fun _ _ _ h => h) (Or.inl ⟨by rfl, ?hydr15⟩) (by assumption) ?restdr15
      case hydr15 => (intro w hSw; (try dsimp only at hSw); go_simp <;> with_reducible rfl)
      try simp only [Act.put, List.setIfInBounds_toArray, List.set_cons_zero, List.set_cons_succ]
      refine wpAnyH_take (i := 16) (oi := { dst := some 20, op := Op.fieldAddr 34 (Operand.tmp 2) 1, type := 0, pos := "serial.go:44", after := _, guard := some (10, false) }) (v := ?vdr16) rfl (by kernel_rfl) (by kernel_rfl) (by kernel_rfl) (fun _ _ _ h => h) (Or.inl ⟨by rfl, ?hydr16⟩) (by assumption) ?restdr16
      case hydr16 => (intro w hSw; (try dsimp only at hSw); go_simp <;> with_reducible rfl)
      try simp only [Act.put, List.setIfInBounds_toArray, List.set_cons_zero, List.set_cons_succ]
      refine wpAnyH_take (i := 17) (oi := { dst := some 21, op := Op.load 3 (Operand.tmp 20), type := 3, pos := "serial.go:44", after := _, guard := some (10, false) }) (v := ?vdr17) rfl (by kernel_rfl) (by kernel_rfl) (by kernel_rfl) (fun _ _ _ h => h) (Or.inl ⟨by rfl, ?hydr17⟩) (by assumption) ?restdr17
      case hydr17 => (intro w hSw; (try dsimp only at hSw); go_simp <;> with_reducible rfl)
      try simp only [Act.put, List.setIfInBounds_toArray, List.set_cons_zero, List.set_cons_succ]
      refine wpAnyH_take (i := 18) (oi := { dst := some 22, op := Op.binOp BinOp.neq 3 (Operand.tmp 19) (Operand.tmp 21) 3, type := 4, pos := "serial.go:44", after := _, guard := some (10, false) }) (v := ?vdr18) rfl (by kernel_rfl) (by kernel_rfl) (by kernel_rfl) (fun _ _ _ h => h) (Or.inl ⟨by rfl, ?hydr18⟩) (by assumption) ?restdr18
      case hydr18 => (intro w hSw; (try dsimp only at hSw); go_simp <;> with_reducible rfl)
      try simp only [Act.put, List.setIfInBounds_toArray, List.set_cons_zero, List.set_cons_succ]
      refine wpAnyH_take (i := 19) (oi := { dst := some 23, op := Op.pick (Operand.tmp 14) (Operand.const (Value.bool true)) (Operand.tmp 22), type := 4, pos := "serial.go:44", after := _, guard := none }) (v := ?vdr19) rfl (by kernel_rfl) (by kernel_rfl) (by kernel_rfl) (fun _ _ _ h => h) (Or.inl ⟨by rfl, ?hydr19⟩) (by assumption) ?restdr19
      case hydr19 => (intro w hSw; (try dsimp only at hSw); go_simp <;> with_reducible rfl)
      try simp only [Act.put, List.setIfInBounds_toArray, List.set_cons_zero, List.set_cons_succ]
      refine wpAnyH_take (i := 20) (oi := { dst := some 3, op := Op.assign (Operand.tmp 23), type := 4, pos := "serial.go:44", after := _, guard := none }) (v := ?vdr20) rfl (by kernel_rfl) (by kernel_rfl) (by kernel_rfl) (fun _ _ _ h => h) (Or.inl ⟨by rfl, ?hydr20⟩) (by assumption) ?restdr20
      case hydr20 => (intro w hSw; (try dsimp only at hSw); go_simp <;> with_reducible rfl)
      try simp only [Act.put, List.setIfInBounds_toArray, List.set_cons_zero, List.set_cons_succ]
      refine wpAnyH_done (by kernel_rfl) ?_ _
      go_wp2
      go_ret
      exact ⟨rfl, HB1.out.drew⟩
end

set_option maxRecDepth 100000 in
set_option maxHeartbeats 2000000 in
theorem agree_any (rv lv : Value) (R : List Pr) (l : List Int) (w : World) (hR : Sl w 2 rv R.length (R.flatMap encPr)) (hl : Sl w 1 lv l.length (l.flatMap encI)) :
    Calls Try.prog 18 #[rv, lv] w fun e w' => e = .returned (.bool (agreeL R l)) ∧ Below w.heap.size w w' := by
  have eg : ∀ args w, (callFunc 35 args).run Try.prog w = .ok (.enter 35 args) w := enters_of Try.func35 (by kernel_rfl) rfl
  have hb0 : Below w.heap.size w (w.alloc (.cells #[lv] 29)) := (Below.refl _ w).alloc (Nat.le_refl _) _
  obtain ⟨A, c, rfl, _, _⟩ := hl.form
  have hc : (w.alloc (.cells #[.slice A l.length c] 29)).cell? ⟨w.heap.size, 0, none⟩ = some (.slice A l.length c) := by rw [(Blk.new_ w _ _ _ rfl).cell]; rfl
  have hlt : w.heap.size < (w.alloc (.cells #[.slice A l.length c] 29)).heap.size := by simp
  have hcon := contains_pair (badW l) 35 #[.pointer (some ⟨w.heap.size, 0, none⟩)] eg rv R _ (fun W x hb => agree1_any x A c w.heap.size l W (Nat.lt_of_lt_of_le hlt hb.size) ((hb.cell (p := ⟨w.heap.size, 0, none⟩) hlt).trans hc) ((hl.below hb0).below hb)) (hR.below hb0)
  unfold agreeL
  generalize R.any (badW l) = q at *
  obtain ⟨A2, c2, rfl, _, _⟩ := hR.form
  clear hR hl eg hc
  go_enter Try.func18, Try.ntmps18
  go_wp2_with (go_at_call 34; refine hcon.mono ?_; rintro e w' ⟨rfl, hb'⟩)
  go_ret
  exact ⟨rfl, hb0.trans (hb'.mono (by simp))⟩

/-- As PredB, of the elements alone. -/
def PredM (P : Program) {α : Type} (g : Nat) (lb : Array Value) (enc : α → Value) (p : α → Bool) (w : World) (zs : List α) : Prop :=
  ∀ (W : World) (x : α), x ∈ zs → Below w.heap.size w W → Calls P g (#[enc x] ++ lb) W fun e w' => e = .returned (.bool (p x)) ∧ Below W.heap.size W w'
set_option maxHeartbeats 1000000 in
theorem index_recm (p : Rx → Bool) (g : Nat) (lb : Array Value) (eg : ∀ args w, (callFunc g args).run Try.prog w = .ok (.enter g args) w) (v : Value) (zs : List (Rx)) (w : World)
    (hp : PredM Try.prog g lb (fun x : Rx => Value.agg (encRx x).toArray) p w zs) (hv : Sl w 10 v zs.length (zs.flatMap encRx)) :
    Calls Try.prog 36 #[v, .func (.func g) #[] lb] w fun e w' => e = .returned (.int .i64 (idxF p zs)) ∧ Below w.heap.size w w' := by
  have hk : ∀ x, (encRx x).length = 10 := fun _ => rfl
  obtain ⟨hl, ⟨rfl, hz⟩ | ⟨a, c, rfl, hc, hm, hr⟩⟩ := hv
  · obtain rfl : zs = [] := List.eq_nil_of_length_eq_zero hz
    clear hl hz
    go_enter Try.func36, Try.ntmps36
    go_wp2
    refine wp_loop_rounds 1 ?_
    rw [rounds_succ]
    go_wp2
    go_ret
    exact ⟨rfl, Below.refl _ _⟩
  · obtain ⟨n, hn⟩ : ∃ n, zs.length = n := ⟨_, rfl⟩
    rw [hn] at hl hc hr ⊢
    have hbig : n ≤ 9223372036854775807 := by unfold maxLen at hm; omega
    have hrow : ∀ (W : World), Below w.heap.size w W → ∀ j (hj : j < zs.length), a.spot = none ∧ ∀ i u, (encRx zs[j])[i]? = some u → W.cell? ⟨a.block, a.off + j * 10 + i, none⟩ = some u := fun W hW j hj => by
      obtain ⟨hs, hC⟩ := hr (by omega)
      refine ⟨hs, fun i u hi => ?_⟩
      rw [Nat.add_assoc]
      exact (hC.same hW).2 _ _ (flat_get encRx hk zs j hj i u hi)
    clear hr
    have HN := Lib.hid hn
    clear hn hl hk hm hc
    go_enter Try.func36, Try.ntmps36
    go_wp2
    go_loopg [5, 8] n (fun gg _ s8 wr => ∃ kk : Nat, kk ≤ n ∧ n - kk ≤ gg ∧ s8 = .int .i64 kk ∧ Hid (Below w.heap.size w wr) ∧ Hid (∀ j (h : j < zs.length), j < kk → p zs[j] = false))
    case atStart => exact ⟨0, Nat.zero_le _, by omega, rfl, Below.refl _ w, fun j _ hj => absurd hj (Nat.not_lt_zero _)⟩
    case round =>
      obtain ⟨kk, hkk, hg, rfl, BW, AA⟩ := hrel
      by_cases hlt : kk < n
      · have hltz : (kk : Int) < (n : Int) := by omega
        have hlt' : kk < zs.length := by rw [HN.out]; exact hlt
        obtain ⟨hs, l2⟩ := hrow wr BW.out kk hlt'
        have hcall := hp wr zs[kk] (List.getElem_mem _) BW.out
        clear hrow hp
        obtain ⟨b, o, s⟩ := a
        simp only at hs l2
        subst hs
        generalize hy : zs[kk] = y at l2 hcall
        have B : Hid (zs[kk] = y) := hy
        clear hy
        (have c0 := l2 0 _ rfl; have c1 := l2 1 _ rfl; have c2 := l2 2 _ rfl; have c3 := l2 3 _ rfl; have c4 := l2 4 _ rfl; have c5 := l2 5 _ rfl; have c6 := l2 6 _ rfl; have c7 := l2 7 _ rfl; have c8 := l2 8 _ rfl; have c9 := l2 9 _ rfl; simp only [Nat.add_zero] at c0)
        clear l2
        cases hq : p y with
        | true =>
          rw [hq] at hcall
          have HQ := Lib.hid hq
          clear hq
          go_wp2_with (go_at_fn g; refine hcall.mono ?_; rintro e w' ⟨rfl, hb'⟩)
          go_ret
          refine ⟨?_, BW.out.trans (hb'.mono BW.out.size)⟩
          rw [idxF_hit p zs kk hlt' (by rw [B.out]; exact HQ.out) (fun j hj => AA.out j (by omega) hj)]
          rfl
        | false =>
          rw [hq] at hcall
          have HQ := Lib.hid hq
          clear hq
          go_wp2_with (go_at_fn g; refine hcall.mono ?_; rintro e w' ⟨rfl, hb'⟩)
          go_roundg (n - (kk + 1))
          case measure => omega
          case rel =>
            refine ⟨kk + 1, by omega, by omega, by go_num, BW.out.trans (hb'.mono BW.out.size), (show Hid _ from fun j h hj => ?_)⟩
            by_cases e : j = kk
            · subst e
              rw [B.out]; exact HQ.out
            · exact AA.out j h (by omega)
      · have hltz : ¬ (kk : Int) < (n : Int) := by omega
        obtain rfl : n = kk := by omega
        go_wp2
        go_ret
        refine ⟨?_, BW.out⟩
        rw [idxF_miss p zs (fun j h => AA.out j h (by rw [HN.out] at h; exact h))]
        rfl
set_option maxHeartbeats 400000 in
theorem contains_recm (p : Rx → Bool) (g : Nat) (lb : Array Value) (eg : ∀ args w, (callFunc g args).run Try.prog w = .ok (.enter g args) w) (v : Value) (zs : List (Rx)) (w : World)
    (hp : PredM Try.prog g lb (fun x : Rx => Value.agg (encRx x).toArray) p w zs) (hv : Sl w 10 v zs.length (zs.flatMap encRx)) :
    Calls Try.prog 19 #[v, .func (.func g) #[] lb] w fun e w' => e = .returned (.bool (zs.any p)) ∧ Below w.heap.size w w' := by
  rw [← idxF_any]
  have hcon := index_recm p g lb eg v zs w hp hv
  clear hp hv eg
  generalize idxF p zs = r at hcon ⊢
  go_enter Try.func19, Try.ntmps19
  go_wp2_with (go_at_call 36; refine hcon.mono ?_; rintro e w' ⟨rfl, hb'⟩)
  go_ret
  exact ⟨rfl, hb'⟩

/-- Did a try not read what stood at its version? -/
def badO (n : Int) (h : List Rx) (x : Rx) : Bool := !agreeL x.R (stateL n h x.rv)
def opaqueL (n : Int) (h : List Rx) : Bool := !h.any (badO n h)

section
attribute [local go_sem ↓] Go.wp_at_zero Go.wp_at_succ
set_option maxRecDepth 100000 in
set_option maxHeartbeats 4000000 in
theorem opaque1_any (n : Int) (x : Rx) (h : List Rx) (A : Option Addr) (c Bn Bh : Nat) (w : World) (hl : h.length ≤ 100000) (hx : RxOk w x) (hBn : Bn < w.heap.size) (hBh : Bh < w.heap.size) (hcn : w.cell? ⟨Bn, 0, none⟩ = some (.int .i64 n)) (hch : w.cell? ⟨Bh, 0, none⟩ = some (.slice A h.length c)) (hv : RecsV w (.slice A h.length c) h) :
    Calls Try.prog 20 #[.agg (encRx x).toArray, .pointer (some ⟨Bn, 0, none⟩), .pointer (some ⟨Bh, 0, none⟩)] w fun e w' => e = .returned (.bool (badO n h x)) ∧ Below w.heap.size w w' := by
  have hb0 : Below w.heap.size w (w.alloc (.cells (encRx x).toArray 27)) := (Below.refl _ w).alloc (Nat.le_refl _) _
  have kB := Blk.new_ w 27 (encRx x).toArray _ rfl
  obtain ⟨w1, hw1⟩ : ∃ z, w.alloc (.cells (encRx x).toArray 27) = z := ⟨_, rfl⟩
  rw [hw1] at hb0 kB
  have HS := Lib.hid (fun W (hb : Below w.heap.size w W) => state_any n x.rv (.slice A h.length c) h W (hv.below hb) hl)
  have HA := Lib.hid (fun lv l W (hb : Below w.heap.size w W) h2 => agree_any (.slice x.rA x.R.length x.rc) lv x.R l W (hx.1.below hb) h2)
  have s0 := (hb0.cell (p := ⟨Bn, 0, none⟩) hBn).trans hcn
  have s1 := (hb0.cell (p := ⟨Bh, 0, none⟩) hBh).trans hch
  have p4 : w1.cell? ⟨w.heap.size, 4, none⟩ = some (.int .i64 x.rv) := by rw [kB.cell]; rfl
  have p6 : w1.cell? ⟨w.heap.size, 6, none⟩ = some (.slice x.rA x.R.length x.rc) := by rw [kB.cell]; rfl
  have l0 : Bn < w1.heap.size := Nat.lt_of_lt_of_le hBn hb0.size
  have l1 : Bh < w1.heap.size := Nat.lt_of_lt_of_le hBh hb0.size
  have l2 := kB.lt
  have HW := Lib.hid hw1
  have HB := Lib.hid hb0
  unfold badO
  obtain ⟨q, hq⟩ : ∃ q, q = agreeL x.R (stateL n h x.rv) := ⟨_, rfl⟩
  rw [← hq]
  have HQ := Lib.hid hq
  generalize h.length = m at *
  simp only [encRx] at HW ⊢
  clear hcn hch hv hx hw1 hb0 kB hq
  go_enter Try.func20, Try.ntmps20
  go_wp2_with fail
  rw [HW.out]
  refine wp_region_held_drew (S := fun w' => w'.cell? ⟨w.heap.size, 4, none⟩ = some (.int .i64 x.rv) ∧ w'.cell? ⟨w.heap.size, 6, none⟩ = some (.slice x.rA x.R.length x.rc) ∧ w'.cell? ⟨Bn, 0, none⟩ = some (.int .i64 n) ∧ w'.cell? ⟨Bh, 0, none⟩ = some (.slice A m c)) (by kernel_rfl) ?_ (fun hHelder => ?_)
  · exact ⟨p4, p6, s0, s1⟩
  refine wpAnyH_take (i := 0) (oi := { dst := some 5, op := Op.fieldAddr 27 (Operand.tmp 3) 6, type := 0, pos := "serial.go:49", after := _, guard := none }) (v := ?ver0) rfl (by kernel_rfl) (by kernel_rfl) (by kernel_rfl) (fun _ _ _ h => h) (Or.inl ⟨by rfl, ?hyer0⟩) (by assumption) ?rester0
  case hyer0 => (intro w hSw; (try dsimp only at hSw); go_simp <;> with_reducible rfl)
  try simp only [Act.put, List.setIfInBounds_toArray, List.set_cons_zero, List.set_cons_succ]
  refine wpAnyH_take (i := 1) (oi := { dst := some 6, op := Op.load 25 (Operand.tmp 5), type := 25, pos := "serial.go:49", after := _, guard := none }) (v := ?ver1) rfl (by kernel_rfl) (by kernel_rfl) (by kernel_rfl) (fun _ _ _ h => h) (Or.inl ⟨by rfl, ?hyer1⟩) (by assumption) ?rester1
  case hyer1 => (intro w hSw; (try dsimp only at hSw); go_simp <;> with_reducible rfl)
  try simp only [Act.put, List.setIfInBounds_toArray, List.set_cons_zero, List.set_cons_succ]
  refine wpAnyH_take (i := 2) (oi := { dst := some 7, op := Op.load 3 (Operand.tmp 1), type := 3, pos := "serial.go:49", after := _, guard := none }) (v := ?ver2) rfl (by kernel_rfl) (by kernel_rfl) (by kernel_rfl) (fun _ _ _ h => h) (Or.inl ⟨by rfl, ?hyer2⟩) (by assumption) ?rester2
  case hyer2 => (intro w hSw; (try dsimp only at hSw); go_simp <;> with_reducible rfl)
  try simp only [Act.put, List.setIfInBounds_toArray, List.set_cons_zero, List.set_cons_succ]
  refine wpAnyH_take (i := 3) (oi := { dst := some 8, op := Op.load 22 (Operand.tmp 2), type := 22, pos := "serial.go:49", after := _, guard := none }) (v := ?ver3) rfl (by kernel_rfl) (by kernel_rfl) (by kernel_rfl) (fun _ _ _ h => h) (Or.inl ⟨by rfl, ?hyer3⟩) (by assumption) ?rester3
  case hyer3 => (intro w hSw; (try dsimp only at hSw); go_simp <;> with_reducible rfl)
  try simp only [Act.put, List.setIfInBounds_toArray, List.set_cons_zero, List.set_cons_succ]
  refine wpAnyH_take (i := 4) (oi := { dst := some 9, op := Op.fieldAddr 27 (Operand.tmp 3) 4, type := 0, pos := "serial.go:49", after := _, guard := none }) (v := ?ver4) rfl (by kernel_rfl) (by kernel_rfl) (by kernel_rfl) (fun _ _ _ h => h) (Or.inl ⟨by rfl, ?hyer4⟩) (by assumption) ?rester4
  case hyer4 => (intro w hSw; (try dsimp only at hSw); go_simp <;> with_reducible rfl)
  try simp only [Act.put, List.setIfInBounds_toArray, List.set_cons_zero, List.set_cons_succ]
  refine wpAnyH_take (i := 5) (oi := { dst := some 10, op := Op.load 3 (Operand.tmp 9), type := 3, pos := "serial.go:49", after := _, guard := none }) (v := ?ver5) rfl (by kernel_rfl) (by kernel_rfl) (by kernel_rfl) (fun _ _ _ h => h) (Or.inl ⟨by rfl, ?hyer5⟩) (by assumption) ?rester5
  case hyer5 => (intro w hSw; (try dsimp only at hSw); go_simp <;> with_reducible rfl)
  try simp only [Act.put, List.setIfInBounds_toArray, List.set_cons_zero, List.set_cons_succ]
  refine wpAnyH_ready (rs := [6]) (by kernel_rfl) (by simp) ?_
  refine AllReadyH.cons (o := { dst := some 11, op := Op.call { callee := Callee.value (Operand.func 11), args := #[Operand.tmp 7, Operand.tmp 8, Operand.tmp 10], argTypes := #[3, 22, 3] }, type := 29, pos := "serial.go:49", after := _, guard := none }) rfl (fun K hK => ?_) AllReadyH.nil
  go_simp
  refine (HS.out _ HB.out.drew).mono ?_
  rintro e w3 ⟨v3, rfl, hv3, hb3⟩
  have hX := (Below.refl w1.heap.size w1).drew.trans (hb3.mono (Nat.le_refl _))
  try go_wp2_with fail
  refine hK.out _ _ ?_ (fun hHelder6 => ?_)
  · exact ⟨(hX.cell (p := ⟨w.heap.size, 4, none⟩) l2).trans p4, (hX.cell (p := ⟨w.heap.size, 6, none⟩) l2).trans p6, (hX.cell (p := ⟨Bn, 0, none⟩) l0).trans s0, (hX.cell (p := ⟨Bh, 0, none⟩) l1).trans s1⟩
  clear hK K hHelder
  try simp only [Act.put, List.setIfInBounds_toArray, List.set_cons_zero, List.set_cons_succ]
  refine wpAnyH_ready (rs := [7]) (by kernel_rfl) (by simp) ?_
  refine AllReadyH.cons (o := { dst := some 12, op := Op.call { callee := Callee.value (Operand.func 18), args := #[Operand.tmp 6, Operand.tmp 11], argTypes := #[25, 29] }, type := 4, pos := "serial.go:49", after := _, guard := none }) rfl (fun K hK => ?_) AllReadyH.nil
  go_simp
  refine (HA.out v3 _ _ (HB.out.trans (hX.mono HB.out.size)) hv3).mono ?_
  rintro e w4 ⟨rfl, hb4⟩
  have hY := hX.trans (hb4.mono hX.size)
  rw [← HQ.out]
  try go_wp2_with fail
  refine hK.out _ _ ?_ (fun hHelder7 => ?_)
  · exact ⟨(hY.cell (p := ⟨w.heap.size, 4, none⟩) l2).trans p4, (hY.cell (p := ⟨w.heap.size, 6, none⟩) l2).trans p6, (hY.cell (p := ⟨Bn, 0, none⟩) l0).trans s0, (hY.cell (p := ⟨Bh, 0, none⟩) l1).trans s1⟩
  clear hK K hHelder6
  try simp only [Act.put, List.setIfInBounds_toArray, List.set_cons_zero, List.set_cons_succ]
  refine wpAnyH_take (i := 8) (oi := { dst := some 13, op := Op.unOp UnOp.not 4 (Operand.tmp 12), type := 4, pos := "serial.go:49", after := _, guard := none }) (v := ?ver8) rfl (by kernel_rfl) (by kernel_rfl) (by kernel_rfl) (fun _ _ _ h => h) (Or.inl ⟨by rfl, ?hyer8⟩) (by assumption) ?rester8
  case hyer8 => (intro w hSw; (try dsimp only at hSw); go_simp <;> with_reducible rfl)
  try simp only [Act.put, List.setIfInBounds_toArray, List.set_cons_zero, List.set_cons_succ]
  refine wpAnyH_take (i := 9) (oi := { dst := some 4, op := Op.assign (Operand.tmp 13), type := 4, pos := "serial.go:49", after := _, guard := none }) (v := ?ver9) rfl (by kernel_rfl) (by kernel_rfl) (by kernel_rfl) (fun _ _ _ h => h) (Or.inl ⟨by rfl, ?hyer9⟩) (by assumption) ?rester9
  case hyer9 => (intro w hSw; (try dsimp only at hSw); go_simp <;> with_reducible rfl)
  try simp only [Act.put, List.setIfInBounds_toArray, List.set_cons_zero, List.set_cons_succ]
  refine wpAnyH_done (by kernel_rfl) ?_ _
  go_wp2
  go_ret
  exact ⟨rfl, HB.out.trans (hY.mono HB.out.size)⟩
end

set_option maxRecDepth 100000 in
set_option maxHeartbeats 2000000 in
theorem opaque_any (n : Int) (v : Value) (h : List Rx) (w : World) (hv : RecsV w v h) (hl : h.length ≤ 100000) :
    Calls Try.prog 13 #[.int .i64 n, v] w fun e w' => e = .returned (.bool (opaqueL n h)) ∧ Below w.heap.size w w' := by
  have eg : ∀ args w, (callFunc 20 args).run Try.prog w = .ok (.enter 20 args) w := enters_of Try.func20 (by kernel_rfl) rfl
  obtain ⟨A, c, rfl, _, _⟩ := hv.1.form
  obtain ⟨w1, hw1⟩ : ∃ z, (w.alloc (.cells #[.int .i64 n] 3)).alloc (.cells #[.slice A h.length c] 22) = z := ⟨_, rfl⟩
  have hb0 : Below w.heap.size w w1 := hw1 ▸ ((Below.refl _ w).alloc (Nat.le_refl _) _).alloc (by simp) _
  have k0 : Blk w1 w.heap.size 3 #[.int .i64 n] := hw1 ▸ (Blk.new_ w _ _ _ rfl).alloc _
  have k1 : Blk w1 (w.heap.size + 1) 22 #[.slice A h.length c] := hw1 ▸ Blk.new_ _ _ _ _ (by simp)
  have hc0 : w1.cell? ⟨w.heap.size, 0, none⟩ = some (.int .i64 n) := by rw [k0.cell]; rfl
  have hc1 : w1.cell? ⟨w.heap.size + 1, 0, none⟩ = some (.slice A h.length c) := by rw [k1.cell]; rfl
  have l0 := k0.lt
  have l1 := k1.lt
  have hcon := contains_recm (badO n h) 20 #[.pointer (some ⟨w.heap.size, 0, none⟩), .pointer (some ⟨w.heap.size + 1, 0, none⟩)] eg (.slice A h.length c) h w1 (fun W x hx hb => opaque1_any n x h A c _ _ W hl ((hv.2 x hx).below (hb0.trans (hb.mono hb0.size))) (Nat.lt_of_lt_of_le l0 hb.size) (Nat.lt_of_lt_of_le l1 hb.size) ((hb.cell (p := ⟨w.heap.size, 0, none⟩) l0).trans hc0) ((hb.cell (p := ⟨w.heap.size + 1, 0, none⟩) l1).trans hc1) (hv.below (hb0.trans (hb.mono hb0.size)))) (hv.1.below hb0)
  have HW := Lib.hid hw1
  have HB := Lib.hid hb0
  unfold opaqueL
  generalize h.any (badO n h) = q at *
  generalize h.length = m at *
  clear hv eg hw1 hb0 k0 k1
  go_enter Try.func13, Try.ntmps13
  go_upto_region 1 with fail
  rw [HW.out]
  go_wp2_with (go_at_call 19; refine hcon.mono ?_; rintro e w' ⟨rfl, hb'⟩)
  go_ret
  exact ⟨rfl, HB.out.trans (hb'.mono HB.out.size)⟩
end Go.Proofs.Ytmcbnpeihedcaaa
