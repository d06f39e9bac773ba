/- lock.Take, Give, Tick. -/
import Derived.Test.YtmcbnpeihedcaaaLkDo
namespace Go.Proofs.Ytmcbnpeihedcaaa
set_option linter.unusedSimpArgs false
open Go Go.RowKit
set_option linter.unusedVariables false
attribute [local go_sem ↓] Go.wp_at_zero Go.wp_at_succ

/-- Is there such a one? -/
def someB (who : Int) : Bool := decide (0 ≤ who) && decide (who < 4)

set_option maxHeartbeats 400000 in
theorem some_any (who : Int) (w : World) : Calls Try.prog 71 #[.int .i64 who] w fun e w' => e = .returned (.bool (someB who)) ∧ w = w' := by
  by_cases h1 : 0 ≤ who
  · by_cases h2 : who < 4
    · rw [show someB who = true from by simp [someB, h1, h2]]
      go_enter Try.func71, Try.ntmps71
      go_wp2
      go_ret
      exact ⟨rfl, rfl⟩
    · rw [show someB who = false from by simp [someB, h2]]
      go_enter Try.func71, Try.ntmps71
      go_wp2
      go_ret
      exact ⟨rfl, rfl⟩
  · rw [show someB who = false from by simp [someB, h1]]
    go_enter Try.func71, Try.ntmps71
    go_wp2
    go_ret
    exact ⟨rfl, rfl⟩

def takeL (now mx : Int) (ls : List Lk) (i who : Int) : Int × List Lk := doL (takeF who) now mx ls i (someB who)

theorem doL_len (f : Lk → Int × Lk) (now mx : Int) (ls : List Lk) (i : Int) (b : Bool) : (doL f now mx ls i b).2.length = ls.length := by
  unfold doL
  split
  · split
    · simp
    · rfl
  · rfl

set_option maxHeartbeats 2000000 in
theorem Take_any (v : Value) (now mx i who : Int) (ls : List Lk) (w : World) (hv : LkV w v now mx ls) (hn : ls.length ≤ 1000) :
    Calls Try.prog 57 #[v, .int .i64 i, .int .i64 who] w (LkRes now mx (takeL now mx ls i who) w) := by
  obtain ⟨A, c, rfl, hv⟩ := hv.form
  have hb0 : Below w.heap.size w ((w.alloc (.cells #[.int .i64 now, .int .i64 mx, .slice A ls.length c] 43)).alloc (.cells #[.int .i64 0, .int .i64 0, .slice none 0 0] 43)) := ((Below.refl _ w).alloc (Nat.le_refl _) _).alloc (by simp) _
  have eg : ∀ args w, (callFunc 72 args).run Try.prog w = .ok (.enter 72 args) w := enters_of Try.func72 (by kernel_rfl) rfl
  have hcon := fun W (h : Below w.heap.size w W) => do_any 72 _ (takeF who) eg (take_spec who (-1)) now mx i (someB who) _ ls W (hv.sl.below h) hn
  have hsome := fun w => some_any who w
  clear hv eg hn
  rw [show takeL now mx ls i who = doL (takeF who) now mx ls i (someB who) from rfl]
  generalize doL (takeF who) now mx ls i (someB who) = r at *
  generalize someB who = q at *
  go_enter Try.func57, Try.ntmps57
  go_wp2_with fail
  have hA0 : Blk ((w.alloc (.cells #[.int .i64 now, .int .i64 mx, .slice A ls.length c] 43)).alloc (.cells #[.int .i64 0, .int .i64 0, .slice none 0 0] 43)) w.heap.size 43 #[.int .i64 now, .int .i64 mx, .slice A ls.length c] := (Blk.new_ w _ _ _ rfl).alloc _
  have hA1 : Blk ((w.alloc (.cells #[.int .i64 now, .int .i64 mx, .slice A ls.length c] 43)).alloc (.cells #[.int .i64 0, .int .i64 0, .slice none 0 0] 43)) (w.heap.size + 1) 43 #[.int .i64 0, .int .i64 0, .slice none 0 0] := Blk.new_ _ _ _ _ (by simp)
  obtain ⟨w1, hw1⟩ : ∃ x, ((w.alloc (.cells #[.int .i64 now, .int .i64 mx, .slice A ls.length c] 43)).alloc (.cells #[.int .i64 0, .int .i64 0, .slice none 0 0] 43)) = x := ⟨_, rfl⟩
  rw [hw1] at hA0 hA1 hb0 ⊢
  clear hw1
  have s0 : w1.cell? ⟨w.heap.size, 0, none⟩ = some (.int .i64 now) := by rw [hA0.cell]; rfl
  have s1 : w1.cell? ⟨w.heap.size, 1, none⟩ = some (.int .i64 mx) := by rw [hA0.cell]; rfl
  have s2 : w1.cell? ⟨w.heap.size, 2, none⟩ = some (.slice A ls.length c) := by rw [hA0.cell]; rfl
  have sf0 : w1.frozen? ⟨w.heap.size, 0, none⟩ = false := hA0.free 0
  have sf1 : w1.frozen? ⟨w.heap.size, 1, none⟩ = false := hA0.free 1
  have sf2 : w1.frozen? ⟨w.heap.size, 2, none⟩ = false := hA0.free 2
  have t0 : w1.cell? ⟨w.heap.size + 1, 0, none⟩ = some (.int .i64 0) := by rw [hA1.cell]; rfl
  have t1 : w1.cell? ⟨w.heap.size + 1, 1, none⟩ = some (.int .i64 0) := by rw [hA1.cell]; rfl
  have t2 : w1.cell? ⟨w.heap.size + 1, 2, none⟩ = some (.slice none 0 0) := by rw [hA1.cell]; rfl
  have tf0 : w1.frozen? ⟨w.heap.size + 1, 0, none⟩ = false := hA1.free 0
  have tf1 : w1.frozen? ⟨w.heap.size + 1, 1, none⟩ = false := hA1.free 1
  have tf2 : w1.frozen? ⟨w.heap.size + 1, 2, none⟩ = false := hA1.free 2
  have l0 := hA0.lt
  have l1 := hA1.lt
  have BW := (Below.refl w1.heap.size w1).drew
  have BZ := hb0.trans (BW.mono hb0.size)
  have hcall := hcon _ BZ
  clear hcon
  go_region_held3 (fun w' => w'.cell? ⟨w.heap.size, 0, none⟩ = some (.int .i64 now) ∧ w'.cell? ⟨w.heap.size, 1, none⟩ = some (.int .i64 mx) ∧ w'.cell? ⟨w.heap.size, 2, none⟩ = some (.slice A ls.length c))
    (first | exact ⟨s0, s1, s2⟩ | exact ⟨(hX.cell (p := ⟨w.heap.size, 0, none⟩) l0).trans s0, (hX.cell (p := ⟨w.heap.size, 1, none⟩) l0).trans s1, (hX.cell (p := ⟨w.heap.size, 2, none⟩) l0).trans s2⟩ | go_keep)
    (first | (go_at_call 71; refine (hsome _).mono ?_; rintro e w' ⟨rfl, rfl⟩) | (go_at_call 70; refine hcall.mono ?_; rintro e w' ⟨v', rfl, ⟨sv, rfl, hrow⟩, hb'⟩; have hX := BW.trans (hb'.mono BW.size); obtain ⟨A', c', rfl, _, _⟩ := (Sl.of_own hrow).form; have u0 := (hX.cell (p := ⟨w.heap.size + 1, 0, none⟩) l1).trans t0; have u1 := (hX.cell (p := ⟨w.heap.size + 1, 1, none⟩) l1).trans t1; have u2 := (hX.cell (p := ⟨w.heap.size + 1, 2, none⟩) l1).trans t2; have uf0 := (hX.frozen (p := ⟨w.heap.size + 1, 0, none⟩) l1).trans tf0; have uf1 := (hX.frozen (p := ⟨w.heap.size + 1, 1, none⟩) l1).trans tf1; have uf2 := (hX.frozen (p := ⟨w.heap.size + 1, 2, none⟩) l1).trans tf2))
  all_goals
    go_wp2
    refine bodyPost_ret (v := .tuple #[.agg #[.int .i64 now, .int .i64 mx, .slice A' r.2.length c'], .int .i64 r.1]) (by simp [results, Try.results57, go_sem, u0, u1, u2]) rfl ⟨_, rfl, ⟨_, rfl, ?_⟩, ?_⟩
    · exact ownsRow_mono (ownsRow_setCell_below (ownsRow_setCell_below (ownsRow_setCell_below hrow (by have := hb0.size; first | (simp; done) | (simp at *; omega)) _) (by first | (simp; done) | (simp; omega)) _) (by first | (simp; done) | (simp; omega)) _) (by have := hb0.size; simp; omega)
    · exact (((hb0.trans (hX.mono hb0.size)).setCell (by simp) _).setCell (by simp) _).setCell (by simp) _

def giveL (now mx : Int) (ls : List Lk) (i who ver : Int) : Int × List Lk := doL (giveF who ver) now mx ls i (someB who && (decide (-1 ≤ ver) && decide (ver ≤ now)))

set_option maxRecDepth 100000 in
set_option maxHeartbeats 4000000 in
theorem Give_any (v : Value) (now mx i who ver : Int) (ls : List Lk) (w : World) (hv : LkV w v now mx ls) (hn : ls.length ≤ 1000) :
    Calls Try.prog 62 #[v, .int .i64 i, .int .i64 who, .int .i64 ver] w (LkRes now mx (giveL now mx ls i who ver) w) := by
  obtain ⟨A, c, rfl, hv⟩ := hv.form
  have hb0 : Below w.heap.size w ((w.alloc (.cells #[.int .i64 now, .int .i64 mx, .slice A ls.length c] 43)).alloc (.cells #[.int .i64 0, .int .i64 0, .slice none 0 0] 43)) := ((Below.refl _ w).alloc (Nat.le_refl _) _).alloc (by simp) _
  have eg : ∀ args w, (callFunc 77 args).run Try.prog w = .ok (.enter 77 args) w := enters_of Try.func77 (by kernel_rfl) rfl
  have hcon := fun b W (h : Below w.heap.size w W) => do_any 77 _ (giveF who ver) eg (give_spec who ver) now mx i b _ ls W (hv.sl.below h) hn
  have hsome := fun w => some_any who w
  clear hv eg hn
  cases hq : someB who with
  | false =>
    rw [hq] at hsome
    rw [show giveL now mx ls i who ver = doL (giveF who ver) now mx ls i false from by simp [giveL, hq]]
    have hcon := hcon false
    generalize doL (giveF who ver) now mx ls i false = r at *
    go_enter Try.func62, Try.ntmps62
    go_wp2_with fail
    have hA0 : Blk ((w.alloc (.cells #[.int .i64 now, .int .i64 mx, .slice A ls.length c] 43)).alloc (.cells #[.int .i64 0, .int .i64 0, .slice none 0 0] 43)) w.heap.size 43 #[.int .i64 now, .int .i64 mx, .slice A ls.length c] := (Blk.new_ w _ _ _ rfl).alloc _
    have hA1 : Blk ((w.alloc (.cells #[.int .i64 now, .int .i64 mx, .slice A ls.length c] 43)).alloc (.cells #[.int .i64 0, .int .i64 0, .slice none 0 0] 43)) (w.heap.size + 1) 43 #[.int .i64 0, .int .i64 0, .slice none 0 0] := Blk.new_ _ _ _ _ (by simp)
    obtain ⟨w1, hw1⟩ : ∃ x, ((w.alloc (.cells #[.int .i64 now, .int .i64 mx, .slice A ls.length c] 43)).alloc (.cells #[.int .i64 0, .int .i64 0, .slice none 0 0] 43)) = x := ⟨_, rfl⟩
    rw [hw1] at hA0 hA1 hb0 ⊢
    clear hw1
    have s0 : w1.cell? ⟨w.heap.size, 0, none⟩ = some (.int .i64 now) := by rw [hA0.cell]; rfl
    have s1 : w1.cell? ⟨w.heap.size, 1, none⟩ = some (.int .i64 mx) := by rw [hA0.cell]; rfl
    have s2 : w1.cell? ⟨w.heap.size, 2, none⟩ = some (.slice A ls.length c) := by rw [hA0.cell]; rfl
    have sf0 : w1.frozen? ⟨w.heap.size, 0, none⟩ = false := hA0.free 0
    have sf1 : w1.frozen? ⟨w.heap.size, 1, none⟩ = false := hA0.free 1
    have sf2 : w1.frozen? ⟨w.heap.size, 2, none⟩ = false := hA0.free 2
    have t0 : w1.cell? ⟨w.heap.size + 1, 0, none⟩ = some (.int .i64 0) := by rw [hA1.cell]; rfl
    have t1 : w1.cell? ⟨w.heap.size + 1, 1, none⟩ = some (.int .i64 0) := by rw [hA1.cell]; rfl
    have t2 : w1.cell? ⟨w.heap.size + 1, 2, none⟩ = some (.slice none 0 0) := by rw [hA1.cell]; rfl
    have tf0 : w1.frozen? ⟨w.heap.size + 1, 0, none⟩ = false := hA1.free 0
    have tf1 : w1.frozen? ⟨w.heap.size + 1, 1, none⟩ = false := hA1.free 1
    have tf2 : w1.frozen? ⟨w.heap.size + 1, 2, none⟩ = false := hA1.free 2
    have l0 := hA0.lt
    have l1 := hA1.lt
    have BW := (Below.refl w1.heap.size w1).drew
    have BZ := hb0.trans (BW.mono hb0.size)
    have hcall := hcon _ BZ
    clear hcon
    refine wp_region_held_drew (S := fun w' => w'.cell? ⟨w.heap.size, 0, none⟩ = some (.int .i64 now) ∧ w'.cell? ⟨w.heap.size, 1, none⟩ = some (.int .i64 mx) ∧ w'.cell? ⟨w.heap.size, 2, none⟩ = some (.slice A ls.length c)) (by kernel_rfl) ?_ (fun hHeldbr => ?_)
    · exact ⟨s0, s1, s2⟩
    refine tkW 0 { dst := some 10, op := Op.load 43 (Operand.tmp 4), type := 43, pos := "lock.go:90", after := _, guard := none } (v := ?vbr0) rfl (Or.inl ⟨by rfl, ?hybr0⟩) ?restbr0
    case hybr0 => (intro w hSw; (try dsimp only at hSw); go_simp <;> with_reducible rfl)
    try simp only [putW, setZ, setS]
    refine tkW 1 { dst := some 11, op := Op.move (Operand.tmp 1), type := 3, pos := "lock.go:90", after := _, guard := none } (v := ?vbr1) rfl (Or.inl ⟨by rfl, ?hybr1⟩) ?restbr1
    case hybr1 => (intro w hSw; (try dsimp only at hSw); go_simp <;> with_reducible rfl)
    try simp only [putW, setZ, setS]
    refine tkW 2 { dst := some 12, op := Op.move (Operand.tmp 2), type := 3, pos := "lock.go:90", after := _, guard := none } (v := ?vbr2) rfl (Or.inl ⟨by rfl, ?hybr2⟩) ?restbr2
    case hybr2 => (intro w hSw; (try dsimp only at hSw); go_simp <;> with_reducible rfl)
    try simp only [putW, setZ, setS]
    refine tkW 14 { dst := some 24, op := Op.move (Operand.tmp 2), type := 3, pos := "lock.go:90", after := _, guard := none } (v := ?vbr14) rfl (Or.inl ⟨by rfl, ?hybr14⟩) ?restbr14
    case hybr14 => (intro w hSw; (try dsimp only at hSw); go_simp <;> with_reducible rfl)
    try simp only [putW, setZ, setS]
    refine tkW 15 { dst := some 25, op := Op.move (Operand.tmp 3), type := 3, pos := "lock.go:90", after := _, guard := none } (v := ?vbr15) rfl (Or.inl ⟨by rfl, ?hybr15⟩) ?restbr15
    case hybr15 => (intro w hSw; (try dsimp only at hSw); go_simp <;> with_reducible rfl)
    try simp only [putW, setZ, setS]
    refine tkW 16 { dst := some 26, op := Op.build 116 #[(0, Operand.tmp 24), (1, Operand.tmp 25)], type := 116, pos := "lock.go:90", after := _, guard := none } (v := ?vbr16) rfl (Or.inl ⟨by rfl, ?hybr16⟩) ?restbr16
    case hybr16 => (intro w hSw; (try dsimp only at hSw); go_simp <;> with_reducible rfl)
    try simp only [putW, setZ, setS]
    refine tkW 17 { dst := some 27, op := Op.makeFunc (Fn.func 77) #[Operand.tmp 26] #[], type := 114, pos := "lock.go:90", after := _, guard := none } (v := ?vbr17) rfl (Or.inl ⟨by rfl, ?hybr17⟩) ?restbr17
    case hybr17 => (intro w hSw; (try dsimp only at hSw); go_simp <;> with_reducible rfl)
    try simp only [putW, setZ, setS]
    refine wpAnyH_ready (rs := [3]) (by kernel_rfl) (by simp) ?_
    refine AllReadyH.cons (o := { dst := some 13, op := Op.call { callee := Callee.value (Operand.func 71), args := #[Operand.tmp 12], argTypes := #[3] }, type := 4, pos := "lock.go:90", after := _, guard := none }) rfl (fun K hK => ?_) AllReadyH.nil
    go_simp
    refine (hsome _).mono ?_
    rintro e w' ⟨rfl, rfl⟩
    try go_wp2_with fail
    refine hK.out _ _ ?_ (fun hHeldbr3 => ?_)
    · exact ⟨s0, s1, s2⟩
    clear hK K hHeldbr
    try simp only [Act.put, List.setIfInBounds_toArray, List.set_cons_zero, List.set_cons_succ]
    refine tkW 4 { dst := some 14, op := Op.move (Operand.tmp 13), type := 4, pos := "lock.go:90", after := _, guard := none } (v := ?vbr4) rfl (Or.inl ⟨by rfl, ?hybr4⟩) ?restbr4
    case hybr4 => (intro w hSw; (try dsimp only at hSw); go_simp <;> with_reducible rfl)
    try simp only [putW, setZ, setS]
    refine tkW 5 { dst := some 15, op := Op.move (Operand.tmp 3), type := 3, pos := "lock.go:90", after := _, guard := some (4, true) } rfl (Or.inr ⟨by rfl, rfl⟩) ?_
    try simp only [putW, setZ, setS]
    refine tkW 6 { dst := some 16, op := Op.binOp BinOp.geq 3 (Operand.tmp 15) (Operand.const (Value.int IntKind.i64 (-1))) 3, type := 4, pos := "lock.go:90", after := _, guard := some (4, true) } rfl (Or.inr ⟨by rfl, rfl⟩) ?_
    try simp only [putW, setZ, setS]
    refine tkW 7 { dst := some 17, op := Op.pick (Operand.tmp 14) (Operand.tmp 16) (Operand.const (Value.bool false)), type := 4, pos := "lock.go:90", after := _, guard := none } (v := ?vbr7) rfl (Or.inl ⟨by rfl, ?hybr7⟩) ?restbr7
    case hybr7 => (intro w hSw; (try dsimp only at hSw); go_simp <;> with_reducible rfl)
    try simp only [putW, setZ, setS]
    refine tkW 8 { dst := some 18, op := Op.move (Operand.tmp 17), type := 4, pos := "lock.go:90", after := _, guard := none } (v := ?vbr8) rfl (Or.inl ⟨by rfl, ?hybr8⟩) ?restbr8
    case hybr8 => (intro w hSw; (try dsimp only at hSw); go_simp <;> with_reducible rfl)
    try simp only [putW, setZ, setS]
    refine tkW 9 { dst := some 19, op := Op.move (Operand.tmp 3), type := 3, pos := "lock.go:90", after := _, guard := some (8, true) } rfl (Or.inr ⟨by rfl, rfl⟩) ?_
    try simp only [putW, setZ, setS]
    refine tkW 10 { dst := some 20, op := Op.fieldAddr 43 (Operand.tmp 4) 0, type := 0, pos := "lock.go:90", after := _, guard := some (8, true) } rfl (Or.inr ⟨by rfl, rfl⟩) ?_
    try simp only [putW, setZ, setS]
    refine tkW 11 { dst := some 21, op := Op.load 3 (Operand.tmp 20), type := 3, pos := "lock.go:90", after := _, guard := some (8, true) } rfl (Or.inr ⟨by rfl, rfl⟩) ?_
    try simp only [putW, setZ, setS]
    refine tkW 12 { dst := some 22, op := Op.binOp BinOp.leq 3 (Operand.tmp 19) (Operand.tmp 21) 3, type := 4, pos := "lock.go:90", after := _, guard := some (8, true) } rfl (Or.inr ⟨by rfl, rfl⟩) ?_
    try simp only [putW, setZ, setS]
    refine tkW 13 { dst := some 23, op := Op.pick (Operand.tmp 18) (Operand.tmp 22) (Operand.const (Value.bool false)), type := 4, pos := "lock.go:90", after := _, guard := none } (v := ?vbr13) rfl (Or.inl ⟨by rfl, ?hybr13⟩) ?restbr13
    case hybr13 => (intro w hSw; (try dsimp only at hSw); go_simp <;> with_reducible rfl)
    try simp only [putW, setZ, setS]
    refine wpAnyH_ready (rs := [18]) (by kernel_rfl) (by simp) ?_
    refine AllReadyH.cons (o := { dst := some 28, op := Op.call { callee := Callee.value (Operand.func 70), args := #[Operand.tmp 10, Operand.tmp 11, Operand.tmp 23, Operand.tmp 27], argTypes := #[43, 3, 4, 114] }, type := 98, pos := "lock.go:90", after := _, guard := none }) rfl (fun K hK => ?_) AllReadyH.nil
    go_simp
    refine hcall.mono ?_
    rintro e w' ⟨v', rfl, ⟨sv, rfl, hrow⟩, hb'⟩
    have hX := BW.trans (hb'.mono BW.size)
    obtain ⟨A', c', rfl, _, _⟩ := (Sl.of_own hrow).form
    have u0 := (hX.cell (p := ⟨w.heap.size + 1, 0, none⟩) l1).trans t0
    have u1 := (hX.cell (p := ⟨w.heap.size + 1, 1, none⟩) l1).trans t1
    have u2 := (hX.cell (p := ⟨w.heap.size + 1, 2, none⟩) l1).trans t2
    have uf0 := (hX.frozen (p := ⟨w.heap.size + 1, 0, none⟩) l1).trans tf0
    have uf1 := (hX.frozen (p := ⟨w.heap.size + 1, 1, none⟩) l1).trans tf1
    have uf2 := (hX.frozen (p := ⟨w.heap.size + 1, 2, none⟩) l1).trans tf2
    try go_wp2_with fail
    refine hK.out _ _ ?_ (fun hHeldbr18 => ?_)
    · exact ⟨(hX.cell (p := ⟨w.heap.size, 0, none⟩) l0).trans s0, (hX.cell (p := ⟨w.heap.size, 1, none⟩) l0).trans s1, (hX.cell (p := ⟨w.heap.size, 2, none⟩) l0).trans s2⟩
    clear hK K hHeldbr3
    try simp only [Act.put, List.setIfInBounds_toArray, List.set_cons_zero, List.set_cons_succ]
    refine tkW 19 { dst := some 29, op := Op.extract (Operand.tmp 28) 0, type := 43, pos := "lock.go:90", after := _, guard := none } (v := ?vbr19) rfl (Or.inl ⟨by rfl, ?hybr19⟩) ?restbr19
    case hybr19 => (intro w hSw; (try dsimp only at hSw); go_simp <;> with_reducible rfl)
    try simp only [putW, setZ, setS]
    refine tkW 20 { dst := some 30, op := Op.extract (Operand.tmp 28) 1, type := 97, pos := "lock.go:90", after := _, guard := none } (v := ?vbr20) rfl (Or.inl ⟨by rfl, ?hybr20⟩) ?restbr20
    case hybr20 => (intro w hSw; (try dsimp only at hSw); go_simp <;> with_reducible rfl)
    try simp only [putW, setZ, setS]
    refine wpAnyH_ready (rs := [21]) (by kernel_rfl) (by simp) ?_
    refine AllReadyH.cons (o := { dst := none, op := Op.store 43 (Operand.tmp 8) (Operand.tmp 29), type := 0, pos := "lock.go:90", after := _, guard := none }) rfl (fun K hK => ?_) AllReadyH.nil
    go_simp
    skip
    refine hK.out _ _ ?_ (fun hHeldbr21 => ?_)
    · go_keep
    clear hK K hHeldbr18
    try simp only [Act.put, List.setIfInBounds_toArray, List.set_cons_zero, List.set_cons_succ]
    refine wpAnyH_ready (rs := [22]) (by kernel_rfl) (by simp) ?_
    refine AllReadyH.cons (o := { dst := some 9, op := Op.assign (Operand.tmp 30), type := 97, pos := "lock.go:90", after := _, guard := none }) rfl (fun K hK => ?_) AllReadyH.nil
    go_simp
    skip
    refine hK.out _ _ ?_ (fun hHeldbr22 => ?_)
    · go_keep
    clear hK K hHeldbr21
    try simp only [Act.put, List.setIfInBounds_toArray, List.set_cons_zero, List.set_cons_succ]
    refine wpAnyH_done (by kernel_rfl) ?_ _
    go_wp2
    refine bodyPost_ret (v := .tuple #[.agg #[.int .i64 now, .int .i64 mx, .slice A' r.2.length c'], .int .i64 r.1]) (by simp [results, Try.results62, go_sem, u0, u1, u2]) rfl ⟨_, rfl, ⟨_, rfl, ?_⟩, ?_⟩
    · exact ownsRow_mono (ownsRow_setCell_below (ownsRow_setCell_below (ownsRow_setCell_below hrow (by have := hb0.size; first | (simp; done) | (simp at *; omega)) _) (by first | (simp; done) | (simp; omega)) _) (by first | (simp; done) | (simp; omega)) _) (by have := hb0.size; simp; omega)
    · exact (((hb0.trans (hX.mono hb0.size)).setCell (by simp) _).setCell (by simp) _).setCell (by simp) _


  | true =>
    rw [hq] at hsome
    cases h1 : decide (-1 ≤ ver) with
    | false =>
      rw [show giveL now mx ls i who ver = doL (giveF who ver) now mx ls i false from by simp [giveL, hq, h1]]
      have hcon := hcon false
      generalize doL (giveF who ver) now mx ls i false = r at *
      go_enter Try.func62, Try.ntmps62
      go_wp2_with fail
      have hA0 : Blk ((w.alloc (.cells #[.int .i64 now, .int .i64 mx, .slice A ls.length c] 43)).alloc (.cells #[.int .i64 0, .int .i64 0, .slice none 0 0] 43)) w.heap.size 43 #[.int .i64 now, .int .i64 mx, .slice A ls.length c] := (Blk.new_ w _ _ _ rfl).alloc _
      have hA1 : Blk ((w.alloc (.cells #[.int .i64 now, .int .i64 mx, .slice A ls.length c] 43)).alloc (.cells #[.int .i64 0, .int .i64 0, .slice none 0 0] 43)) (w.heap.size + 1) 43 #[.int .i64 0, .int .i64 0, .slice none 0 0] := Blk.new_ _ _ _ _ (by simp)
      obtain ⟨w1, hw1⟩ : ∃ x, ((w.alloc (.cells #[.int .i64 now, .int .i64 mx, .slice A ls.length c] 43)).alloc (.cells #[.int .i64 0, .int .i64 0, .slice none 0 0] 43)) = x := ⟨_, rfl⟩
      rw [hw1] at hA0 hA1 hb0 ⊢
      clear hw1
      have s0 : w1.cell? ⟨w.heap.size, 0, none⟩ = some (.int .i64 now) := by rw [hA0.cell]; rfl
      have s1 : w1.cell? ⟨w.heap.size, 1, none⟩ = some (.int .i64 mx) := by rw [hA0.cell]; rfl
      have s2 : w1.cell? ⟨w.heap.size, 2, none⟩ = some (.slice A ls.length c) := by rw [hA0.cell]; rfl
      have sf0 : w1.frozen? ⟨w.heap.size, 0, none⟩ = false := hA0.free 0
      have sf1 : w1.frozen? ⟨w.heap.size, 1, none⟩ = false := hA0.free 1
      have sf2 : w1.frozen? ⟨w.heap.size, 2, none⟩ = false := hA0.free 2
      have t0 : w1.cell? ⟨w.heap.size + 1, 0, none⟩ = some (.int .i64 0) := by rw [hA1.cell]; rfl
      have t1 : w1.cell? ⟨w.heap.size + 1, 1, none⟩ = some (.int .i64 0) := by rw [hA1.cell]; rfl
      have t2 : w1.cell? ⟨w.heap.size + 1, 2, none⟩ = some (.slice none 0 0) := by rw [hA1.cell]; rfl
      have tf0 : w1.frozen? ⟨w.heap.size + 1, 0, none⟩ = false := hA1.free 0
      have tf1 : w1.frozen? ⟨w.heap.size + 1, 1, none⟩ = false := hA1.free 1
      have tf2 : w1.frozen? ⟨w.heap.size + 1, 2, none⟩ = false := hA1.free 2
      have l0 := hA0.lt
      have l1 := hA1.lt
      have BW := (Below.refl w1.heap.size w1).drew
      have BZ := hb0.trans (BW.mono hb0.size)
      have hcall := hcon _ BZ
      clear hcon
      refine wp_region_held_drew (S := fun w' => w'.cell? ⟨w.heap.size, 0, none⟩ = some (.int .i64 now) ∧ w'.cell? ⟨w.heap.size, 1, none⟩ = some (.int .i64 mx) ∧ w'.cell? ⟨w.heap.size, 2, none⟩ = some (.slice A ls.length c)) (by kernel_rfl) ?_ (fun hHeldcr => ?_)
      · exact ⟨s0, s1, s2⟩
      refine tkW 0 { dst := some 10, op := Op.load 43 (Operand.tmp 4), type := 43, pos := "lock.go:90", after := _, guard := none } (v := ?vcr0) rfl (Or.inl ⟨by rfl, ?hycr0⟩) ?restcr0
      case hycr0 => (intro w hSw; (try dsimp only at hSw); go_simp <;> with_reducible rfl)
      try simp only [putW, setZ, setS]
      refine tkW 1 { dst := some 11, op := Op.move (Operand.tmp 1), type := 3, pos := "lock.go:90", after := _, guard := none } (v := ?vcr1) rfl (Or.inl ⟨by rfl, ?hycr1⟩) ?restcr1
      case hycr1 => (intro w hSw; (try dsimp only at hSw); go_simp <;> with_reducible rfl)
      try simp only [putW, setZ, setS]
      refine tkW 2 { dst := some 12, op := Op.move (Operand.tmp 2), type := 3, pos := "lock.go:90", after := _, guard := none } (v := ?vcr2) rfl (Or.inl ⟨by rfl, ?hycr2⟩) ?restcr2
      case hycr2 => (intro w hSw; (try dsimp only at hSw); go_simp <;> with_reducible rfl)
      try simp only [putW, setZ, setS]
      refine tkW 14 { dst := some 24, op := Op.move (Operand.tmp 2), type := 3, pos := "lock.go:90", after := _, guard := none } (v := ?vcr14) rfl (Or.inl ⟨by rfl, ?hycr14⟩) ?restcr14
      case hycr14 => (intro w hSw; (try dsimp only at hSw); go_simp <;> with_reducible rfl)
      try simp only [putW, setZ, setS]
      refine tkW 15 { dst := some 25, op := Op.move (Operand.tmp 3), type := 3, pos := "lock.go:90", after := _, guard := none } (v := ?vcr15) rfl (Or.inl ⟨by rfl, ?hycr15⟩) ?restcr15
      case hycr15 => (intro w hSw; (try dsimp only at hSw); go_simp <;> with_reducible rfl)
      try simp only [putW, setZ, setS]
      refine tkW 16 { dst := some 26, op := Op.build 116 #[(0, Operand.tmp 24), (1, Operand.tmp 25)], type := 116, pos := "lock.go:90", after := _, guard := none } (v := ?vcr16) rfl (Or.inl ⟨by rfl, ?hycr16⟩) ?restcr16
      case hycr16 => (intro w hSw; (try dsimp only at hSw); go_simp <;> with_reducible rfl)
      try simp only [putW, setZ, setS]
      refine tkW 17 { dst := some 27, op := Op.makeFunc (Fn.func 77) #[Operand.tmp 26] #[], type := 114, pos := "lock.go:90", after := _, guard := none } (v := ?vcr17) rfl (Or.inl ⟨by rfl, ?hycr17⟩) ?restcr17
      case hycr17 => (intro w hSw; (try dsimp only at hSw); go_simp <;> with_reducible rfl)
      try simp only [putW, setZ, setS]
      refine wpAnyH_ready (rs := [3]) (by kernel_rfl) (by simp) ?_
      refine AllReadyH.cons (o := { dst := some 13, op := Op.call { callee := Callee.value (Operand.func 71), args := #[Operand.tmp 12], argTypes := #[3] }, type := 4, pos := "lock.go:90", after := _, guard := none }) rfl (fun K hK => ?_) AllReadyH.nil
      go_simp
      refine (hsome _).mono ?_
      rintro e w' ⟨rfl, rfl⟩
      try go_wp2_with fail
      refine hK.out _ _ ?_ (fun hHeldcr3 => ?_)
      · exact ⟨s0, s1, s2⟩
      clear hK K hHeldcr
      try simp only [Act.put, List.setIfInBounds_toArray, List.set_cons_zero, List.set_cons_succ]
      refine tkW 4 { dst := some 14, op := Op.move (Operand.tmp 13), type := 4, pos := "lock.go:90", after := _, guard := none } (v := ?vcr4) rfl (Or.inl ⟨by rfl, ?hycr4⟩) ?restcr4
      case hycr4 => (intro w hSw; (try dsimp only at hSw); go_simp <;> with_reducible rfl)
      try simp only [putW, setZ, setS]
      refine tkW 5 { dst := some 15, op := Op.move (Operand.tmp 3), type := 3, pos := "lock.go:90", after := _, guard := some (4, true) } (v := ?vcr5) rfl (Or.inl ⟨by rfl, ?hycr5⟩) ?restcr5
      case hycr5 => (intro w hSw; (try dsimp only at hSw); go_simp <;> with_reducible rfl)
      try simp only [putW, setZ, setS]
      refine tkW 6 { dst := some 16, op := Op.binOp BinOp.geq 3 (Operand.tmp 15) (Operand.const (Value.int IntKind.i64 (-1))) 3, type := 4, pos := "lock.go:90", after := _, guard := some (4, true) } (v := ?vcr6) rfl (Or.inl ⟨by rfl, ?hycr6⟩) ?restcr6
      case hycr6 => (intro w hSw; (try dsimp only at hSw); go_simp <;> with_reducible rfl)
      try simp only [putW, setZ, setS]
      refine tkW 7 { dst := some 17, op := Op.pick (Operand.tmp 14) (Operand.tmp 16) (Operand.const (Value.bool false)), type := 4, pos := "lock.go:90", after := _, guard := none } (v := ?vcr7) rfl (Or.inl ⟨by rfl, ?hycr7⟩) ?restcr7
      case hycr7 => (intro w hSw; (try dsimp only at hSw); go_simp <;> with_reducible rfl)
      try simp only [putW, setZ, setS]
      refine tkW 8 { dst := some 18, op := Op.move (Operand.tmp 17), type := 4, pos := "lock.go:90", after := _, guard := none } (v := ?vcr8) rfl (Or.inl ⟨by rfl, ?hycr8⟩) ?restcr8
      case hycr8 => (intro w hSw; (try dsimp only at hSw); go_simp <;> with_reducible rfl)
      try simp only [putW, setZ, setS]
      refine tkW 9 { dst := some 19, op := Op.move (Operand.tmp 3), type := 3, pos := "lock.go:90", after := _, guard := some (8, true) } rfl (Or.inr ⟨by rfl, rfl⟩) ?_
      try simp only [putW, setZ, setS]
      refine tkW 10 { dst := some 20, op := Op.fieldAddr 43 (Operand.tmp 4) 0, type := 0, pos := "lock.go:90", after := _, guard := some (8, true) } rfl (Or.inr ⟨by rfl, rfl⟩) ?_
      try simp only [putW, setZ, setS]
      refine tkW 11 { dst := some 21, op := Op.load 3 (Operand.tmp 20), type := 3, pos := "lock.go:90", after := _, guard := some (8, true) } rfl (Or.inr ⟨by rfl, rfl⟩) ?_
      try simp only [putW, setZ, setS]
      refine tkW 12 { dst := some 22, op := Op.binOp BinOp.leq 3 (Operand.tmp 19) (Operand.tmp 21) 3, type := 4, pos := "lock.go:90", after := _, guard := some (8, true) } rfl (Or.inr ⟨by rfl, rfl⟩) ?_
      try simp only [putW, setZ, setS]
      refine tkW 13 { dst := some 23, op := Op.pick (Operand.tmp 18) (Operand.tmp 22) (Operand.const (Value.bool false)), type := 4, pos := "lock.go:90", after := _, guard := none } (v := ?vcr13) rfl (Or.inl ⟨by rfl, ?hycr13⟩) ?restcr13
      case hycr13 => (intro w hSw; (try dsimp only at hSw); go_simp <;> with_reducible rfl)
      try simp only [putW, setZ, setS]
      refine wpAnyH_ready (rs := [18]) (by kernel_rfl) (by simp) ?_
      refine AllReadyH.cons (o := { dst := some 28, op := Op.call { callee := Callee.value (Operand.func 70), args := #[Operand.tmp 10, Operand.tmp 11, Operand.tmp 23, Operand.tmp 27], argTypes := #[43, 3, 4, 114] }, type := 98, pos := "lock.go:90", after := _, guard := none }) rfl (fun K hK => ?_) AllReadyH.nil
      go_simp
      refine hcall.mono ?_
      rintro e w' ⟨v', rfl, ⟨sv, rfl, hrow⟩, hb'⟩
      have hX := BW.trans (hb'.mono BW.size)
      obtain ⟨A', c', rfl, _, _⟩ := (Sl.of_own hrow).form
      have u0 := (hX.cell (p := ⟨w.heap.size + 1, 0, none⟩) l1).trans t0
      have u1 := (hX.cell (p := ⟨w.heap.size + 1, 1, none⟩) l1).trans t1
      have u2 := (hX.cell (p := ⟨w.heap.size + 1, 2, none⟩) l1).trans t2
      have uf0 := (hX.frozen (p := ⟨w.heap.size + 1, 0, none⟩) l1).trans tf0
      have uf1 := (hX.frozen (p := ⟨w.heap.size + 1, 1, none⟩) l1).trans tf1
      have uf2 := (hX.frozen (p := ⟨w.heap.size + 1, 2, none⟩) l1).trans tf2
      try go_wp2_with fail
      refine hK.out _ _ ?_ (fun hHeldcr18 => ?_)
      · exact ⟨(hX.cell (p := ⟨w.heap.size, 0, none⟩) l0).trans s0, (hX.cell (p := ⟨w.heap.size, 1, none⟩) l0).trans s1, (hX.cell (p := ⟨w.heap.size, 2, none⟩) l0).trans s2⟩
      clear hK K hHeldcr3
      try simp only [Act.put, List.setIfInBounds_toArray, List.set_cons_zero, List.set_cons_succ]
      refine tkW 19 { dst := some 29, op := Op.extract (Operand.tmp 28) 0, type := 43, pos := "lock.go:90", after := _, guard := none } (v := ?vcr19) rfl (Or.inl ⟨by rfl, ?hycr19⟩) ?restcr19
      case hycr19 => (intro w hSw; (try dsimp only at hSw); go_simp <;> with_reducible rfl)
      try simp only [putW, setZ, setS]
      refine tkW 20 { dst := some 30, op := Op.extract (Operand.tmp 28) 1, type := 97, pos := "lock.go:90", after := _, guard := none } (v := ?vcr20) rfl (Or.inl ⟨by rfl, ?hycr20⟩) ?restcr20
      case hycr20 => (intro w hSw; (try dsimp only at hSw); go_simp <;> with_reducible rfl)
      try simp only [putW, setZ, setS]
      refine wpAnyH_ready (rs := [21]) (by kernel_rfl) (by simp) ?_
      refine AllReadyH.cons (o := { dst := none, op := Op.store 43 (Operand.tmp 8) (Operand.tmp 29), type := 0, pos := "lock.go:90", after := _, guard := none }) rfl (fun K hK => ?_) AllReadyH.nil
      go_simp
      skip
      refine hK.out _ _ ?_ (fun hHeldcr21 => ?_)
      · go_keep
      clear hK K hHeldcr18
      try simp only [Act.put, List.setIfInBounds_toArray, List.set_cons_zero, List.set_cons_succ]
      refine wpAnyH_ready (rs := [22]) (by kernel_rfl) (by simp) ?_
      refine AllReadyH.cons (o := { dst := some 9, op := Op.assign (Operand.tmp 30), type := 97, pos := "lock.go:90", after := _, guard := none }) rfl (fun K hK => ?_) AllReadyH.nil
      go_simp
      skip
      refine hK.out _ _ ?_ (fun hHeldcr22 => ?_)
      · go_keep
      clear hK K hHeldcr21
      try simp only [Act.put, List.setIfInBounds_toArray, List.set_cons_zero, List.set_cons_succ]
      refine wpAnyH_done (by kernel_rfl) ?_ _
      go_wp2
      refine bodyPost_ret (v := .tuple #[.agg #[.int .i64 now, .int .i64 mx, .slice A' r.2.length c'], .int .i64 r.1]) (by simp [results, Try.results62, go_sem, u0, u1, u2]) rfl ⟨_, rfl, ⟨_, rfl, ?_⟩, ?_⟩
      · exact ownsRow_mono (ownsRow_setCell_below (ownsRow_setCell_below (ownsRow_setCell_below hrow (by have := hb0.size; first | (simp; done) | (simp at *; omega)) _) (by first | (simp; done) | (simp; omega)) _) (by first | (simp; done) | (simp; omega)) _) (by have := hb0.size; simp; omega)
      · exact (((hb0.trans (hX.mono hb0.size)).setCell (by simp) _).setCell (by simp) _).setCell (by simp) _
  
  
    | true =>
      rw [show giveL now mx ls i who ver = doL (giveF who ver) now mx ls i (decide (ver ≤ now)) from by simp [giveL, hq, h1]]
      have hcon := hcon (decide (ver ≤ now))
      generalize doL (giveF who ver) now mx ls i (decide (ver ≤ now)) = r at *
      go_enter Try.func62, Try.ntmps62
      go_wp2_with fail
      have hA0 : Blk ((w.alloc (.cells #[.int .i64 now, .int .i64 mx, .slice A ls.length c] 43)).alloc (.cells #[.int .i64 0, .int .i64 0, .slice none 0 0] 43)) w.heap.size 43 #[.int .i64 now, .int .i64 mx, .slice A ls.length c] := (Blk.new_ w _ _ _ rfl).alloc _
      have hA1 : Blk ((w.alloc (.cells #[.int .i64 now, .int .i64 mx, .slice A ls.length c] 43)).alloc (.cells #[.int .i64 0, .int .i64 0, .slice none 0 0] 43)) (w.heap.size + 1) 43 #[.int .i64 0, .int .i64 0, .slice none 0 0] := Blk.new_ _ _ _ _ (by simp)
      obtain ⟨w1, hw1⟩ : ∃ x, ((w.alloc (.cells #[.int .i64 now, .int .i64 mx, .slice A ls.length c] 43)).alloc (.cells #[.int .i64 0, .int .i64 0, .slice none 0 0] 43)) = x := ⟨_, rfl⟩
      rw [hw1] at hA0 hA1 hb0 ⊢
      clear hw1
      have s0 : w1.cell? ⟨w.heap.size, 0, none⟩ = some (.int .i64 now) := by rw [hA0.cell]; rfl
      have s1 : w1.cell? ⟨w.heap.size, 1, none⟩ = some (.int .i64 mx) := by rw [hA0.cell]; rfl
      have s2 : w1.cell? ⟨w.heap.size, 2, none⟩ = some (.slice A ls.length c) := by rw [hA0.cell]; rfl
      have sf0 : w1.frozen? ⟨w.heap.size, 0, none⟩ = false := hA0.free 0
      have sf1 : w1.frozen? ⟨w.heap.size, 1, none⟩ = false := hA0.free 1
      have sf2 : w1.frozen? ⟨w.heap.size, 2, none⟩ = false := hA0.free 2
      have t0 : w1.cell? ⟨w.heap.size + 1, 0, none⟩ = some (.int .i64 0) := by rw [hA1.cell]; rfl
      have t1 : w1.cell? ⟨w.heap.size + 1, 1, none⟩ = some (.int .i64 0) := by rw [hA1.cell]; rfl
      have t2 : w1.cell? ⟨w.heap.size + 1, 2, none⟩ = some (.slice none 0 0) := by rw [hA1.cell]; rfl
      have tf0 : w1.frozen? ⟨w.heap.size + 1, 0, none⟩ = false := hA1.free 0
      have tf1 : w1.frozen? ⟨w.heap.size + 1, 1, none⟩ = false := hA1.free 1
      have tf2 : w1.frozen? ⟨w.heap.size + 1, 2, none⟩ = false := hA1.free 2
      have l0 := hA0.lt
      have l1 := hA1.lt
      have BW := (Below.refl w1.heap.size w1).drew
      have BZ := hb0.trans (BW.mono hb0.size)
      have hcall := hcon _ BZ
      clear hcon
      refine wp_region_held_drew (S := fun w' => w'.cell? ⟨w.heap.size, 0, none⟩ = some (.int .i64 now) ∧ w'.cell? ⟨w.heap.size, 1, none⟩ = some (.int .i64 mx) ∧ w'.cell? ⟨w.heap.size, 2, none⟩ = some (.slice A ls.length c)) (by kernel_rfl) ?_ (fun hHelddr => ?_)
      · exact ⟨s0, s1, s2⟩
      refine tkW 0 { dst := some 10, op := Op.load 43 (Operand.tmp 4), type := 43, pos := "lock.go:90", after := _, guard := none } (v := ?vdr0) rfl (Or.inl ⟨by rfl, ?hydr0⟩) ?restdr0
      case hydr0 => (intro w hSw; (try dsimp only at hSw); go_simp <;> with_reducible rfl)
      try simp only [putW, setZ, setS]
      refine tkW 1 { dst := some 11, op := Op.move (Operand.tmp 1), type := 3, pos := "lock.go:90", after := _, guard := none } (v := ?vdr1) rfl (Or.inl ⟨by rfl, ?hydr1⟩) ?restdr1
      case hydr1 => (intro w hSw; (try dsimp only at hSw); go_simp <;> with_reducible rfl)
      try simp only [putW, setZ, setS]
      refine tkW 2 { dst := some 12, op := Op.move (Operand.tmp 2), type := 3, pos := "lock.go:90", after := _, guard := none } (v := ?vdr2) rfl (Or.inl ⟨by rfl, ?hydr2⟩) ?restdr2
      case hydr2 => (intro w hSw; (try dsimp only at hSw); go_simp <;> with_reducible rfl)
      try simp only [putW, setZ, setS]
      refine tkW 14 { dst := some 24, op := Op.move (Operand.tmp 2), type := 3, pos := "lock.go:90", after := _, guard := none } (v := ?vdr14) rfl (Or.inl ⟨by rfl, ?hydr14⟩) ?restdr14
      case hydr14 => (intro w hSw; (try dsimp only at hSw); go_simp <;> with_reducible rfl)
      try simp only [putW, setZ, setS]
      refine tkW 15 { dst := some 25, op := Op.move (Operand.tmp 3), type := 3, pos := "lock.go:90", after := _, guard := none } (v := ?vdr15) rfl (Or.inl ⟨by rfl, ?hydr15⟩) ?restdr15
      case hydr15 => (intro w hSw; (try dsimp only at hSw); go_simp <;> with_reducible rfl)
      try simp only [putW, setZ, setS]
      refine tkW 16 { dst := some 26, op := Op.build 116 #[(0, Operand.tmp 24), (1, Operand.tmp 25)], type := 116, pos := "lock.go:90", after := _, guard := none } (v := ?vdr16) rfl (Or.inl ⟨by rfl, ?hydr16⟩) ?restdr16
      case hydr16 => (intro w hSw; (try dsimp only at hSw); go_simp <;> with_reducible rfl)
      try simp only [putW, setZ, setS]
      refine tkW 17 { dst := some 27, op := Op.makeFunc (Fn.func 77) #[Operand.tmp 26] #[], type := 114, pos := "lock.go:90", after := _, guard := none } (v := ?vdr17) rfl (Or.inl ⟨by rfl, ?hydr17⟩) ?restdr17
      case hydr17 => (intro w hSw; (try dsimp only at hSw); go_simp <;> with_reducible rfl)
      try simp only [putW, setZ, setS]
      refine wpAnyH_ready (rs := [3]) (by kernel_rfl) (by simp) ?_
      refine AllReadyH.cons (o := { dst := some 13, op := Op.call { callee := Callee.value (Operand.func 71), args := #[Operand.tmp 12], argTypes := #[3] }, type := 4, pos := "lock.go:90", after := _, guard := none }) rfl (fun K hK => ?_) AllReadyH.nil
      go_simp
      refine (hsome _).mono ?_
      rintro e w' ⟨rfl, rfl⟩
      try go_wp2_with fail
      refine hK.out _ _ ?_ (fun hHelddr3 => ?_)
      · exact ⟨s0, s1, s2⟩
      clear hK K hHelddr
      try simp only [Act.put, List.setIfInBounds_toArray, List.set_cons_zero, List.set_cons_succ]
      refine tkW 4 { dst := some 14, op := Op.move (Operand.tmp 13), type := 4, pos := "lock.go:90", after := _, guard := none } (v := ?vdr4) rfl (Or.inl ⟨by rfl, ?hydr4⟩) ?restdr4
      case hydr4 => (intro w hSw; (try dsimp only at hSw); go_simp <;> with_reducible rfl)
      try simp only [putW, setZ, setS]
      refine tkW 5 { dst := some 15, op := Op.move (Operand.tmp 3), type := 3, pos := "lock.go:90", after := _, guard := some (4, true) } (v := ?vdr5) rfl (Or.inl ⟨by rfl, ?hydr5⟩) ?restdr5
      case hydr5 => (intro w hSw; (try dsimp only at hSw); go_simp <;> with_reducible rfl)
      try simp only [putW, setZ, setS]
      refine tkW 6 { dst := some 16, op := Op.binOp BinOp.geq 3 (Operand.tmp 15) (Operand.const (Value.int IntKind.i64 (-1))) 3, type := 4, pos := "lock.go:90", after := _, guard := some (4, true) } (v := ?vdr6) rfl (Or.inl ⟨by rfl, ?hydr6⟩) ?restdr6
      case hydr6 => (intro w hSw; (try dsimp only at hSw); go_simp <;> with_reducible rfl)
      try simp only [putW, setZ, setS]
      refine tkW 7 { dst := some 17, op := Op.pick (Operand.tmp 14) (Operand.tmp 16) (Operand.const (Value.bool false)), type := 4, pos := "lock.go:90", after := _, guard := none } (v := ?vdr7) rfl (Or.inl ⟨by rfl, ?hydr7⟩) ?restdr7
      case hydr7 => (intro w hSw; (try dsimp only at hSw); go_simp <;> with_reducible rfl)
      try simp only [putW, setZ, setS]
      refine tkW 8 { dst := some 18, op := Op.move (Operand.tmp 17), type := 4, pos := "lock.go:90", after := _, guard := none } (v := ?vdr8) rfl (Or.inl ⟨by rfl, ?hydr8⟩) ?restdr8
      case hydr8 => (intro w hSw; (try dsimp only at hSw); go_simp <;> with_reducible rfl)
      try simp only [putW, setZ, setS]
      refine tkW 9 { dst := some 19, op := Op.move (Operand.tmp 3), type := 3, pos := "lock.go:90", after := _, guard := some (8, true) } (v := ?vdr9) rfl (Or.inl ⟨by rfl, ?hydr9⟩) ?restdr9
      case hydr9 => (intro w hSw; (try dsimp only at hSw); go_simp <;> with_reducible rfl)
      try simp only [putW, setZ, setS]
      refine tkW 10 { dst := some 20, op := Op.fieldAddr 43 (Operand.tmp 4) 0, type := 0, pos := "lock.go:90", after := _, guard := some (8, true) } (v := ?vdr10) rfl (Or.inl ⟨by rfl, ?hydr10⟩) ?restdr10
      case hydr10 => (intro w hSw; (try dsimp only at hSw); go_simp <;> with_reducible rfl)
      try simp only [putW, setZ, setS]
      refine tkW 11 { dst := some 21, op := Op.load 3 (Operand.tmp 20), type := 3, pos := "lock.go:90", after := _, guard := some (8, true) } (v := ?vdr11) rfl (Or.inl ⟨by rfl, ?hydr11⟩) ?restdr11
      case hydr11 => (intro w hSw; (try dsimp only at hSw); go_simp <;> with_reducible rfl)
      try simp only [putW, setZ, setS]
      refine tkW 12 { dst := some 22, op := Op.binOp BinOp.leq 3 (Operand.tmp 19) (Operand.tmp 21) 3, type := 4, pos := "lock.go:90", after := _, guard := some (8, true) } (v := ?vdr12) rfl (Or.inl ⟨by rfl, ?hydr12⟩) ?restdr12
      case hydr12 => (intro w hSw; (try dsimp only at hSw); go_simp <;> with_reducible rfl)
      try simp only [putW, setZ, setS]
      refine tkW 13 { dst := some 23, op := Op.pick (Operand.tmp 18) (Operand.tmp 22) (Operand.const (Value.bool false)), type := 4, pos := "lock.go:90", after := _, guard := none } (v := ?vdr13) rfl (Or.inl ⟨by rfl, ?hydr13⟩) ?restdr13
      case hydr13 => (intro w hSw; (try dsimp only at hSw); go_simp <;> with_reducible rfl)
      try simp only [putW, setZ, setS]
      refine wpAnyH_ready (rs := [18]) (by kernel_rfl) (by simp) ?_
      refine AllReadyH.cons (o := { dst := some 28, op := Op.call { callee := Callee.value (Operand.func 70), args := #[Operand.tmp 10, Operand.tmp 11, Operand.tmp 23, Operand.tmp 27], argTypes := #[43, 3, 4, 114] }, type := 98, pos := "lock.go:90", after := _, guard := none }) rfl (fun K hK => ?_) AllReadyH.nil
      go_simp
      refine hcall.mono ?_
      rintro e w' ⟨v', rfl, ⟨sv, rfl, hrow⟩, hb'⟩
      have hX := BW.trans (hb'.mono BW.size)
      obtain ⟨A', c', rfl, _, _⟩ := (Sl.of_own hrow).form
      have u0 := (hX.cell (p := ⟨w.heap.size + 1, 0, none⟩) l1).trans t0
      have u1 := (hX.cell (p := ⟨w.heap.size + 1, 1, none⟩) l1).trans t1
      have u2 := (hX.cell (p := ⟨w.heap.size + 1, 2, none⟩) l1).trans t2
      have uf0 := (hX.frozen (p := ⟨w.heap.size + 1, 0, none⟩) l1).trans tf0
      have uf1 := (hX.frozen (p := ⟨w.heap.size + 1, 1, none⟩) l1).trans tf1
      have uf2 := (hX.frozen (p := ⟨w.heap.size + 1, 2, none⟩) l1).trans tf2
      try go_wp2_with fail
      refine hK.out _ _ ?_ (fun hHelddr18 => ?_)
      · exact ⟨(hX.cell (p := ⟨w.heap.size, 0, none⟩) l0).trans s0, (hX.cell (p := ⟨w.heap.size, 1, none⟩) l0).trans s1, (hX.cell (p := ⟨w.heap.size, 2, none⟩) l0).trans s2⟩
      clear hK K hHelddr3
      try simp only [Act.put, List.setIfInBounds_toArray, List.set_cons_zero, List.set_cons_succ]
      refine tkW 19 { dst := some 29, op := Op.extract (Operand.tmp 28) 0, type := 43, pos := "lock.go:90", after := _, guard := none } (v := ?vdr19) rfl (Or.inl ⟨by rfl, ?hydr19⟩) ?restdr19
      case hydr19 => (intro w hSw; (try dsimp only at hSw); go_simp <;> with_reducible rfl)
      try simp only [putW, setZ, setS]
      refine tkW 20 { dst := some 30, op := Op.extract (Operand.tmp 28) 1, type := 97, pos := "lock.go:90", after := _, guard := none } (v := ?vdr20) rfl (Or.inl ⟨by rfl, ?hydr20⟩) ?restdr20
      case hydr20 => (intro w hSw; (try dsimp only at hSw); go_simp <;> with_reducible rfl)
      try simp only [putW, setZ, setS]
      refine wpAnyH_ready (rs := [21]) (by kernel_rfl) (by simp) ?_
      refine AllReadyH.cons (o := { dst := none, op := Op.store 43 (Operand.tmp 8) (Operand.tmp 29), type := 0, pos := "lock.go:90", after := _, guard := none }) rfl (fun K hK => ?_) AllReadyH.nil
      go_simp
      skip
      refine hK.out _ _ ?_ (fun hHelddr21 => ?_)
      · go_keep
      clear hK K hHelddr18
      try simp only [Act.put, List.setIfInBounds_toArray, List.set_cons_zero, List.set_cons_succ]
      refine wpAnyH_ready (rs := [22]) (by kernel_rfl) (by simp) ?_
      refine AllReadyH.cons (o := { dst := some 9, op := Op.assign (Operand.tmp 30), type := 97, pos := "lock.go:90", after := _, guard := none }) rfl (fun K hK => ?_) AllReadyH.nil
      go_simp
      skip
      refine hK.out _ _ ?_ (fun hHelddr22 => ?_)
      · go_keep
      clear hK K hHelddr21
      try simp only [Act.put, List.setIfInBounds_toArray, List.set_cons_zero, List.set_cons_succ]
      refine wpAnyH_done (by kernel_rfl) ?_ _
      go_wp2
      refine bodyPost_ret (v := .tuple #[.agg #[.int .i64 now, .int .i64 mx, .slice A' r.2.length c'], .int .i64 r.1]) (by simp [results, Try.results62, go_sem, u0, u1, u2]) rfl ⟨_, rfl, ⟨_, rfl, ?_⟩, ?_⟩
      · exact ownsRow_mono (ownsRow_setCell_below (ownsRow_setCell_below (ownsRow_setCell_below hrow (by have := hb0.size; first | (simp; done) | (simp at *; omega)) _) (by first | (simp; done) | (simp; omega)) _) (by first | (simp; done) | (simp; omega)) _) (by have := hb0.size; simp; omega)
      · exact (((hb0.trans (hX.mono hb0.size)).setCell (by simp) _).setCell (by simp) _).setCell (by simp) _
  
  

end Go.Proofs.Ytmcbnpeihedcaaa
