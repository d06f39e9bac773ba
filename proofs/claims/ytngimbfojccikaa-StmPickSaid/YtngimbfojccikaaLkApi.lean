/- lock.Take, Give, Tick. -/
import Derived.Test.YtngimbfojccikaaLkDo
namespace Go.Proofs.Ytngimbfojccikaa
set_option linter.unusedSimpArgs false
open Go Go.RowKit
set_option linter.unusedVariables false
attribute [local go_sem ↓] Go.wp_at_zero Go.wp_at_succ

/-- Is there such a one? -/
def someB (who : Int) : Bool := decide (0 ≤ who) && decide (who < 4)

set_option maxHeartbeats 400000 in
theorem some_any (who : Int) (w : World) : Calls Try.prog 87 #[.int .i64 who] w fun e w' => e = .returned (.bool (someB who)) ∧ w = w' := by
  by_cases h1 : 0 ≤ who
  · by_cases h2 : who < 4
    · rw [show someB who = true from by simp [someB, h1, h2]]
      go_enter Try.func87, Try.ntmps87
      go_wp2
      go_ret
      exact ⟨rfl, rfl⟩
    · rw [show someB who = false from by simp [someB, h2]]
      go_enter Try.func87, Try.ntmps87
      go_wp2
      go_ret
      exact ⟨rfl, rfl⟩
  · rw [show someB who = false from by simp [someB, h1]]
    go_enter Try.func87, Try.ntmps87
    go_wp2
    go_ret
    exact ⟨rfl, rfl⟩

def takeL (now mx : Int) (ls : List Lk) (i who : Int) : Int × List Lk := doL (takeF who) now mx ls i (someB who)

theorem doL_len (f : Lk → Int × Lk) (now mx : Int) (ls : List Lk) (i : Int) (b : Bool) : (doL f now mx ls i b).2.length = ls.length := by
  unfold doL
  split
  · split
    · simp
    · rfl
  · rfl

set_option maxHeartbeats 2000000 in
theorem Take_any (v : Value) (now mx i who : Int) (ls : List Lk) (w : World) (hv : LkV w v now mx ls) (hn : ls.length ≤ 1000) :
    Calls Try.prog 64 #[v, .int .i64 i, .int .i64 who] w (LkRes now mx (takeL now mx ls i who) w) := by
  obtain ⟨A, c, rfl, hv⟩ := hv.form
  have hb0 : Below w.heap.size w ((w.alloc (.cells #[.int .i64 now, .int .i64 mx, .slice A ls.length c] 30)).alloc (.cells #[.int .i64 0, .int .i64 0, .slice none 0 0] 30)) := ((Below.refl _ w).alloc (Nat.le_refl _) _).alloc (by simp) _
  have eg : ∀ args w, (callFunc 88 args).run Try.prog w = .ok (.enter 88 args) w := enters_of Try.func88 (by kernel_rfl) rfl
  have hcon := fun W (h : Below w.heap.size w W) => do_any 88 _ (takeF who) eg (take_spec who (-1)) now mx i (someB who) _ ls W (hv.sl.below h) hn
  have hsome := fun w => some_any who w
  clear hv eg hn
  rw [show takeL now mx ls i who = doL (takeF who) now mx ls i (someB who) from rfl]
  generalize doL (takeF who) now mx ls i (someB who) = r at *
  generalize someB who = q at *
  go_enter Try.func64, Try.ntmps64
  go_wp2_with fail
  have hA0 : Blk ((w.alloc (.cells #[.int .i64 now, .int .i64 mx, .slice A ls.length c] 30)).alloc (.cells #[.int .i64 0, .int .i64 0, .slice none 0 0] 30)) w.heap.size 30 #[.int .i64 now, .int .i64 mx, .slice A ls.length c] := (Blk.new_ w _ _ _ rfl).alloc _
  have hA1 : Blk ((w.alloc (.cells #[.int .i64 now, .int .i64 mx, .slice A ls.length c] 30)).alloc (.cells #[.int .i64 0, .int .i64 0, .slice none 0 0] 30)) (w.heap.size + 1) 30 #[.int .i64 0, .int .i64 0, .slice none 0 0] := Blk.new_ _ _ _ _ (by simp)
  obtain ⟨w1, hw1⟩ : ∃ x, ((w.alloc (.cells #[.int .i64 now, .int .i64 mx, .slice A ls.length c] 30)).alloc (.cells #[.int .i64 0, .int .i64 0, .slice none 0 0] 30)) = x := ⟨_, rfl⟩
  rw [hw1] at hA0 hA1 hb0 ⊢
  clear hw1
  have s0 : w1.cell? ⟨w.heap.size, 0, none⟩ = some (.int .i64 now) := by rw [hA0.cell]; rfl
  have s1 : w1.cell? ⟨w.heap.size, 1, none⟩ = some (.int .i64 mx) := by rw [hA0.cell]; rfl
  have s2 : w1.cell? ⟨w.heap.size, 2, none⟩ = some (.slice A ls.length c) := by rw [hA0.cell]; rfl
  have sf0 : w1.frozen? ⟨w.heap.size, 0, none⟩ = false := hA0.free 0
  have sf1 : w1.frozen? ⟨w.heap.size, 1, none⟩ = false := hA0.free 1
  have sf2 : w1.frozen? ⟨w.heap.size, 2, none⟩ = false := hA0.free 2
  have t0 : w1.cell? ⟨w.heap.size + 1, 0, none⟩ = some (.int .i64 0) := by rw [hA1.cell]; rfl
  have t1 : w1.cell? ⟨w.heap.size + 1, 1, none⟩ = some (.int .i64 0) := by rw [hA1.cell]; rfl
  have t2 : w1.cell? ⟨w.heap.size + 1, 2, none⟩ = some (.slice none 0 0) := by rw [hA1.cell]; rfl
  have tf0 : w1.frozen? ⟨w.heap.size + 1, 0, none⟩ = false := hA1.free 0
  have tf1 : w1.frozen? ⟨w.heap.size + 1, 1, none⟩ = false := hA1.free 1
  have tf2 : w1.frozen? ⟨w.heap.size + 1, 2, none⟩ = false := hA1.free 2
  have l0 := hA0.lt
  have l1 := hA1.lt
  have BW := (Below.refl w1.heap.size w1).drew
  have BZ := hb0.trans (BW.mono hb0.size)
  have hcall := hcon _ BZ
  clear hcon
  go_region_held3 (fun w' => w'.cell? ⟨w.heap.size, 0, none⟩ = some (.int .i64 now) ∧ w'.cell? ⟨w.heap.size, 1, none⟩ = some (.int .i64 mx) ∧ w'.cell? ⟨w.heap.size, 2, none⟩ = some (.slice A ls.length c))
    (first | exact ⟨s0, s1, s2⟩ | exact ⟨(hX.cell (p := ⟨w.heap.size, 0, none⟩) l0).trans s0, (hX.cell (p := ⟨w.heap.size, 1, none⟩) l0).trans s1, (hX.cell (p := ⟨w.heap.size, 2, none⟩) l0).trans s2⟩ | go_keep)
    (first | (go_at_call 87; refine (hsome _).mono ?_; rintro e w' ⟨rfl, rfl⟩) | (go_at_call 86; refine hcall.mono ?_; rintro e w' ⟨v', rfl, ⟨sv, rfl, hrow⟩, hb'⟩; have hX := BW.trans (hb'.mono BW.size); obtain ⟨A', c', rfl, _, _⟩ := (Sl.of_own hrow).form; have u0 := (hX.cell (p := ⟨w.heap.size + 1, 0, none⟩) l1).trans t0; have u1 := (hX.cell (p := ⟨w.heap.size + 1, 1, none⟩) l1).trans t1; have u2 := (hX.cell (p := ⟨w.heap.size + 1, 2, none⟩) l1).trans t2; have uf0 := (hX.frozen (p := ⟨w.heap.size + 1, 0, none⟩) l1).trans tf0; have uf1 := (hX.frozen (p := ⟨w.heap.size + 1, 1, none⟩) l1).trans tf1; have uf2 := (hX.frozen (p := ⟨w.heap.size + 1, 2, none⟩) l1).trans tf2))
  all_goals
    go_wp2
    refine bodyPost_ret (v := .tuple #[.agg #[.int .i64 now, .int .i64 mx, .slice A' r.2.length c'], .int .i64 r.1]) (by simp [results, Try.results64, go_sem, u0, u1, u2]) rfl ⟨_, rfl, ⟨_, rfl, ?_⟩, ?_⟩
    · exact ownsRow_mono (ownsRow_setCell_below (ownsRow_setCell_below (ownsRow_setCell_below hrow (by have := hb0.size; first | (simp; done) | (simp at *; omega)) _) (by first | (simp; done) | (simp; omega)) _) (by first | (simp; done) | (simp; omega)) _) (by have := hb0.size; simp; omega)
    · exact (((hb0.trans (hX.mono hb0.size)).setCell (by simp) _).setCell (by simp) _).setCell (by simp) _

def giveL (now mx : Int) (ls : List Lk) (i who ver : Int) : Int × List Lk := doL (giveF who ver) now mx ls i (someB who && (decide (-1 ≤ ver) && decide (ver ≤ now)))

set_option maxRecDepth 100000 in
set_option maxHeartbeats 4000000 in
theorem Give_any (v : Value) (now mx i who ver : Int) (ls : List Lk) (w : World) (hv : LkV w v now mx ls) (hn : ls.length ≤ 1000) :
    Calls Try.prog 69 #[v, .int .i64 i, .int .i64 who, .int .i64 ver] w (LkRes now mx (giveL now mx ls i who ver) w) := by
  obtain ⟨A, c, rfl, hv⟩ := hv.form
  have hb0 : Below w.heap.size w ((w.alloc (.cells #[.int .i64 now, .int .i64 mx, .slice A ls.length c] 30)).alloc (.cells #[.int .i64 0, .int .i64 0, .slice none 0 0] 30)) := ((Below.refl _ w).alloc (Nat.le_refl _) _).alloc (by simp) _
  have eg : ∀ args w, (callFunc 92 args).run Try.prog w = .ok (.enter 92 args) w := enters_of Try.func92 (by kernel_rfl) rfl
  have hcon := fun b W (h : Below w.heap.size w W) => do_any 92 _ (giveF who ver) eg (give_spec who ver) now mx i b _ ls W (hv.sl.below h) hn
  have hsome := fun w => some_any who w
  clear hv eg hn
  cases hq : someB who with
  | false =>
    rw [hq] at hsome
    rw [show giveL now mx ls i who ver = doL (giveF who ver) now mx ls i false from by simp [giveL, hq]]
    have hcon := hcon false
    generalize doL (giveF who ver) now mx ls i false = r at *
    go_enter Try.func69, Try.ntmps69
    go_wp2_with fail
    have hA0 : Blk ((w.alloc (.cells #[.int .i64 now, .int .i64 mx, .slice A ls.length c] 30)).alloc (.cells #[.int .i64 0, .int .i64 0, .slice none 0 0] 30)) w.heap.size 30 #[.int .i64 now, .int .i64 mx, .slice A ls.length c] := (Blk.new_ w _ _ _ rfl).alloc _
    have hA1 : Blk ((w.alloc (.cells #[.int .i64 now, .int .i64 mx, .slice A ls.length c] 30)).alloc (.cells #[.int .i64 0, .int .i64 0, .slice none 0 0] 30)) (w.heap.size + 1) 30 #[.int .i64 0, .int .i64 0, .slice none 0 0] := Blk.new_ _ _ _ _ (by simp)
    obtain ⟨w1, hw1⟩ : ∃ x, ((w.alloc (.cells #[.int .i64 now, .int .i64 mx, .slice A ls.length c] 30)).alloc (.cells #[.int .i64 0, .int .i64 0, .slice none 0 0] 30)) = x := ⟨_, rfl⟩
    rw [hw1] at hA0 hA1 hb0 ⊢
    clear hw1
    have s0 : w1.cell? ⟨w.heap.size, 0, none⟩ = some (.int .i64 now) := by rw [hA0.cell]; rfl
    have s1 : w1.cell? ⟨w.heap.size, 1, none⟩ = some (.int .i64 mx) := by rw [hA0.cell]; rfl
    have s2 : w1.cell? ⟨w.heap.size, 2, none⟩ = some (.slice A ls.length c) := by rw [hA0.cell]; rfl
    have sf0 : w1.frozen? ⟨w.heap.size, 0, none⟩ = false := hA0.free 0
    have sf1 : w1.frozen? ⟨w.heap.size, 1, none⟩ = false := hA0.free 1
    have sf2 : w1.frozen? ⟨w.heap.size, 2, none⟩ = false := hA0.free 2
    have t0 : w1.cell? ⟨w.heap.size + 1, 0, none⟩ = some (.int .i64 0) := by rw [hA1.cell]; rfl
    have t1 : w1.cell? ⟨w.heap.size + 1, 1, none⟩ = some (.int .i64 0) := by rw [hA1.cell]; rfl
    have t2 : w1.cell? ⟨w.heap.size + 1, 2, none⟩ = some (.slice none 0 0) := by rw [hA1.cell]; rfl
    have tf0 : w1.frozen? ⟨w.heap.size + 1, 0, none⟩ = false := hA1.free 0
    have tf1 : w1.frozen? ⟨w.heap.size + 1, 1, none⟩ = false := hA1.free 1
    have tf2 : w1.frozen? ⟨w.heap.size + 1, 2, none⟩ = false := hA1.free 2
    have l0 := hA0.lt
    have l1 := hA1.lt
    have BW := (Below.refl w1.heap.size w1).drew
    have BZ := hb0.trans (BW.mono hb0.size)
    have hcall := hcon _ BZ
    clear hcon
    refine wp_region_held_drew (S := fun w' => w'.cell? ⟨w.heap.size, 0, none⟩ = some (.int .i64 now) ∧ w'.cell? ⟨w.heap.size, 1, none⟩ = some (.int .i64 mx) ∧ w'.cell? ⟨w.heap.size, 2, none⟩ = some (.slice A ls.length c)) (by kernel_rfl) ?_ (fun hHeldbr => ?_)
    · exact ⟨s0, s1, s2⟩
    refine wpAnyH_take (i := 0) (oi := { dst := some 10, op := Op.load 30 (Operand.tmp 4), type := 30, pos := "lock.go:90", after := _, guard := none }) (v := ?vbr0) rfl (by kernel_rfl) (by kernel_rfl) (by kernel_rfl) (fun _ _ _ h => h) (Or.inl ⟨by rfl, ?hybr0⟩) (by assumption) ?restbr0
    case hybr0 => (intro w hSw; (try dsimp only at hSw); go_simp <;> with_reducible rfl)
    try simp only [Act.put, List.setIfInBounds_toArray, List.set_cons_zero, List.set_cons_succ]
    refine wpAnyH_take (i := 1) (oi := { dst := some 11, op := Op.move (Operand.tmp 1), type := 3, pos := "lock.go:90", after := _, guard := none }) (v := ?vbr1) rfl (by kernel_rfl) (by kernel_rfl) (by kernel_rfl) (fun _ _ _ h => h) (Or.inl ⟨by rfl, ?hybr1⟩) (by assumption) ?restbr1
    case hybr1 => (intro w hSw; (try dsimp only at hSw); go_simp <;> with_reducible rfl)
    try simp only [Act.put, List.setIfInBounds_toArray, List.set_cons_zero, List.set_cons_succ]
    refine wpAnyH_take (i := 2) (oi := { dst := some 12, op := Op.move (Operand.tmp 2), type := 3, pos := "lock.go:90", after := _, guard := none }) (v := ?vbr2) rfl (by kernel_rfl) (by kernel_rfl) (by kernel_rfl) (fun _ _ _ h => h) (Or.inl ⟨by rfl, ?hybr2⟩) (by assumption) ?restbr2
    case hybr2 => (intro w hSw; (try dsimp only at hSw); go_simp <;> with_reducible rfl)
    try simp only [Act.put, List.setIfInBounds_toArray, List.set_cons_zero, List.set_cons_succ]
    refine wpAnyH_take (i := 14) (oi := { dst := some 24, op := Op.move (Operand.tmp 2), type := 3, pos := "lock.go:90", after := _, guard := none }) (v := ?vbr14) rfl (by kernel_rfl) (by kernel_rfl) (by kernel_rfl) (fun _ _ _ h => h) (Or.inl ⟨by rfl, ?hybr14⟩) (by assumption) ?restbr14
    case hybr14 => (intro w hSw; (try dsimp only at hSw); go_simp <;> with_reducible rfl)
    try simp only [Act.put, List.setIfInBounds_toArray, List.set_cons_zero, List.set_cons_succ]
    refine wpAnyH_take (i := 15) (oi := { dst := some 25, op := Op.move (Operand.tmp 3), type := 3, pos := "lock.go:90", after := _, guard := none }) (v := ?vbr15) rfl (by kernel_rfl) (by kernel_rfl) (by kernel_rfl) (fun _ _ _ h => h) (Or.inl ⟨by rfl, ?hybr15⟩) (by assumption) ?restbr15
    case hybr15 => (intro w hSw; (try dsimp only at hSw); go_simp <;> with_reducible rfl)
    try simp only [Act.put, List.setIfInBounds_toArray, List.set_cons_zero, List.set_cons_succ]
    refine wpAnyH_take (i := 16) (oi := { dst := some 26, op := Op.build 114 #[(0, Operand.tmp 24), (1, Operand.tmp 25)], type := 114, pos := "lock.go:90", after := _, guard := none }) (v := ?vbr16) rfl (by kernel_rfl) (by kernel_rfl) (by kernel_rfl) (fun _ _ _ h => h) (Or.inl ⟨by rfl, ?hybr16⟩) (by assumption) ?restbr16
    case hybr16 => (intro w hSw; (try dsimp only at hSw); go_simp <;> with_reducible rfl)
    try simp only [Act.put, List.setIfInBounds_toArray, List.set_cons_zero, List.set_cons_succ]
    refine wpAnyH_take (i := 17) (oi := { dst := some 27, op := Op.makeFunc (Fn.func 92) #[Operand.tmp 26] #[], type := 112, pos := "lock.go:90", after := _, guard := none }) (v := ?vbr17) rfl (by kernel_rfl) (by kernel_rfl) (by kernel_rfl) (fun _ _ _ h => h) (Or.inl ⟨by rfl, ?hybr17⟩) (by assumption) ?restbr17
    case hybr17 => (intro w hSw; (try dsimp only at hSw); go_simp <;> with_reducible rfl)
    try simp only [Act.put, List.setIfInBounds_toArray, List.set_cons_zero, List.set_cons_succ]
    refine wpAnyH_ready (rs := [3]) (by kernel_rfl) (by simp) ?_
    refine AllReadyH.cons (o := { dst := some 13, op := Op.call { callee := Callee.value (Operand.func 87), args := #[Operand.tmp 12], argTypes := #[3] }, type := 4, pos := "lock.go:90", after := _, guard := none }) rfl (fun K hK => ?_) AllReadyH.nil
    go_simp
    refine (hsome _).mono ?_
    rintro e w' ⟨rfl, rfl⟩
    try go_wp2_with fail
    refine hK.out _ _ ?_ (fun hHeldbr3 => ?_)
    · exact ⟨s0, s1, s2⟩
    clear hK K hHeldbr
    try simp only [Act.put, List.setIfInBounds_toArray, List.set_cons_zero, List.set_cons_succ]
    refine wpAnyH_take (i := 4) (oi := { dst := some 14, op := Op.move (Operand.tmp 13), type := 4, pos := "lock.go:90", after := _, guard := none }) (v := ?vbr4) rfl (by kernel_rfl) (by kernel_rfl) (by kernel_rfl) (fun _ _ _ h => h) (Or.inl ⟨by rfl, ?hybr4⟩) (by assumption) ?restbr4
    case hybr4 => (intro w hSw; (try dsimp only at hSw); go_simp <;> with_reducible rfl)
    try simp only [Act.put, List.setIfInBounds_toArray, List.set_cons_zero, List.set_cons_succ]
    refine wpAnyH_take (i := 5) (oi := { dst := some 15, op := Op.move (Operand.tmp 3), type := 3, pos := "lock.go:90", after := _, guard := some (4, true) }) rfl (by kernel_rfl) (by kernel_rfl) (by kernel_rfl) (fun _ _ _ h => h) (Or.inr ⟨by rfl, rfl⟩) (by assumption) ?_
    try simp only [Act.put, List.setIfInBounds_toArray, List.set_cons_zero, List.set_cons_succ]
    refine wpAnyH_take (i := 6) (oi := { dst := some 16, op := Op.binOp BinOp.geq 3 (Operand.tmp 15) (Operand.const (Value.int IntKind.i64 (-1))) 3, type := 4, pos := "lock.go:90", after := _, guard := some (4, true) }) rfl (by kernel_rfl) (by kernel_rfl) (by kernel_rfl) (fun _ _ _ h => h) (Or.inr ⟨by rfl, rfl⟩) (by assumption) ?_
    try simp only [Act.put, List.setIfInBounds_toArray, List.set_cons_zero, List.set_cons_succ]
    refine wpAnyH_take (i := 7) (oi := { dst := some 17, op := Op.pick (Operand.tmp 14) (Operand.tmp 16) (Operand.const (Value.bool false)), type := 4, pos := "lock.go:90", after := _, guard := none }) (v := ?vbr7) rfl (by kernel_rfl) (by kernel_rfl) (by kernel_rfl) (fun _ _ _ h => h) (Or.inl ⟨by rfl, ?hybr7⟩) (by assumption) ?restbr7
    case hybr7 => (intro w hSw; (try dsimp only at hSw); go_simp <;> with_reducible rfl)
    try simp only [Act.put, List.setIfInBounds_toArray, List.set_cons_zero, List.set_cons_succ]
    refine wpAnyH_take (i := 8) (oi := { dst := some 18, op := Op.move (Operand.tmp 17), type := 4, pos := "lock.go:90", after := _, guard := none }) (v := ?vbr8) rfl (by kernel_rfl) (by kernel_rfl) (by kernel_rfl) (fun _ _ _ h => h) (Or.inl ⟨by rfl, ?hybr8⟩) (by assumption) ?restbr8
    case hybr8 => (intro w hSw; (try dsimp only at hSw); go_simp <;> with_reducible rfl)
    try simp only [Act.put, List.setIfInBounds_toArray, List.set_cons_zero, List.set_cons_succ]
    refine wpAnyH_take (i := 9) (oi := { dst := some 19, op := Op.move (Operand.tmp 3), type := 3, pos := "lock.go:90", after := _, guard := some (8, true) }) rfl (by kernel_rfl) (by kernel_rfl) (by kernel_rfl) (fun _ _ _ h => h) (Or.inr ⟨by rfl, rfl⟩) (by assumption) ?_
    try simp only [Act.put, List.setIfInBounds_toArray, List.set_cons_zero, List.set_cons_succ]
    refine wpAnyH_take (i := 10) (oi := { dst := some 20, op := Op.fieldAddr 30 (Operand.tmp 4) 0, type := 0, pos := "lock.go:90", after := _, guard := some (8, true) }) rfl (by kernel_rfl) (by kernel_rfl) (by kernel_rfl) (fun _ _ _ h => h) (Or.inr ⟨by rfl, rfl⟩) (by assumption) ?_
    try simp only [Act.put, List.setIfInBounds_toArray, List.set_cons_zero, List.set_cons_succ]
    refine wpAnyH_take (i := 11) (oi := { dst := some 21, op := Op.load 3 (Operand.tmp 20), type := 3, pos := "lock.go:90", after := _, guard := some (8, true) }) rfl (by kernel_rfl) (by kernel_rfl) (by kernel_rfl) (fun _ _ _ h => h) (Or.inr ⟨by rfl, rfl⟩) (by assumption) ?_
    try simp only [Act.put, List.setIfInBounds_toArray, List.set_cons_zero, List.set_cons_succ]
    refine wpAnyH_take (i := 12) (oi := { dst := some 22, op := Op.binOp BinOp.leq 3 (Operand.tmp 19) (Operand.tmp 21) 3, type := 4, pos := "lock.go:90", after := _, guard := some (8, true) }) rfl (by kernel_rfl) (by kernel_rfl) (by kernel_rfl) (fun _ _ _ h => h) (Or.inr ⟨by rfl, rfl⟩) (by assumption) ?_
    try simp only [Act.put, List.setIfInBounds_toArray, List.set_cons_zero, List.set_cons_succ]
    refine wpAnyH_take (i := 13) (oi := { dst := some 23, op := Op.pick (Operand.tmp 18) (Operand.tmp 22) (Operand.const (Value.bool false)), type := 4, pos := "lock.go:90", after := _, guard := none }) (v := ?vbr13) rfl (by kernel_rfl) (by kernel_rfl) (by kernel_rfl) (fun _ _ _ h => h) (Or.inl ⟨by rfl, ?hybr13⟩) (by assumption) ?restbr13
    case hybr13 => (intro w hSw; (try dsimp only at hSw); go_simp <;> with_reducible rfl)
    try simp only [Act.put, List.setIfInBounds_toArray, List.set_cons_zero, List.set_cons_succ]
    refine wpAnyH_ready (rs := [18]) (by kernel_rfl) (by simp) ?_
    refine AllReadyH.cons (o := { dst := some 28, op := Op.call { callee := Callee.value (Operand.func 86), args := #[Operand.tmp 10, Operand.tmp 11, Operand.tmp 23, Operand.tmp 27], argTypes := #[30, 3, 4, 112] }, type := 92, pos := "lock.go:90", after := _, guard := none }) rfl (fun K hK => ?_) AllReadyH.nil
    go_simp
    refine hcall.mono ?_
    rintro e w' ⟨v', rfl, ⟨sv, rfl, hrow⟩, hb'⟩
    have hX := BW.trans (hb'.mono BW.size)
    obtain ⟨A', c', rfl, _, _⟩ := (Sl.of_own hrow).form
    have u0 := (hX.cell (p := ⟨w.heap.size + 1, 0, none⟩) l1).trans t0
    have u1 := (hX.cell (p := ⟨w.heap.size + 1, 1, none⟩) l1).trans t1
    have u2 := (hX.cell (p := ⟨w.heap.size + 1, 2, none⟩) l1).trans t2
    have uf0 := (hX.frozen (p := ⟨w.heap.size + 1, 0, none⟩) l1).trans tf0
    have uf1 := (hX.frozen (p := ⟨w.heap.size + 1, 1, none⟩) l1).trans tf1
    have uf2 := (hX.frozen (p := ⟨w.heap.size + 1, 2, none⟩) l1).trans tf2
    try go_wp2_with fail
    refine hK.out _ _ ?_ (fun hHeldbr18 => ?_)
    · exact ⟨(hX.cell (p := ⟨w.heap.size, 0, none⟩) l0).trans s0, (hX.cell (p := ⟨w.heap.size, 1, none⟩) l0).trans s1, (hX.cell (p := ⟨w.heap.size, 2, none⟩) l0).trans s2⟩
    clear hK K hHeldbr3
    try simp only [Act.put, List.setIfInBounds_toArray, List.set_cons_zero, List.set_cons_succ]
    refine wpAnyH_take (i := 19) (oi := { dst := some 29, op := Op.extract (Operand.tmp 28) 0, type := 30, pos := "lock.go:90", after := _, guard := none }) (v := ?vbr19) rfl (by kernel_rfl) (by kernel_rfl) (by kernel_rfl) (fun _ _ _ h => h) (Or.inl ⟨by rfl, ?hybr19⟩) (by assumption) ?restbr19
    case hybr19 => (intro w hSw; (try dsimp only at hSw); go_simp <;> with_reducible rfl)
    try simp only [Act.put, List.setIfInBounds_toArray, List.set_cons_zero, List.set_cons_succ]
    refine wpAnyH_take (i := 20) (oi := { dst := some 30, op := Op.extract (Operand.tmp 28) 1, type := 91, pos := "lock.go:90", after := _, guard := none }) (v := ?vbr20) rfl (by kernel_rfl) (by kernel_rfl) (by kernel_rfl) (fun _ _ _ h => h) (Or.inl ⟨by rfl, ?hybr20⟩) (by assumption) ?restbr20
    case hybr20 => (intro w hSw; (try dsimp only at hSw); go_simp <;> with_reducible rfl)
    try simp only [Act.put, List.setIfInBounds_toArray, List.set_cons_zero, List.set_cons_succ]
    refine wpAnyH_ready (rs := [21]) (by kernel_rfl) (by simp) ?_
    refine AllReadyH.cons (o := { dst := none, op := Op.store 30 (Operand.tmp 8) (Operand.tmp 29), type := 0, pos := "lock.go:90", after := _, guard := none }) rfl (fun K hK => ?_) AllReadyH.nil
    go_simp
    skip
    refine hK.out _ _ ?_ (fun hHeldbr21 => ?_)
    · go_keep
    clear hK K hHeldbr18
    try simp only [Act.put, List.setIfInBounds_toArray, List.set_cons_zero, List.set_cons_succ]
    refine wpAnyH_ready (rs := [22]) (by kernel_rfl) (by simp) ?_
    refine AllReadyH.cons (o := { dst := some 9, op := Op.assign (Operand.tmp 30), type := 91, pos := "lock.go:90", after := _, guard := none }) rfl (fun K hK => ?_) AllReadyH.nil
    go_simp
    skip
    refine hK.out _ _ ?_ (fun hHeldbr22 => ?_)
    · go_keep
    clear hK K hHeldbr21
    try simp only [Act.put, List.setIfInBounds_toArray, List.set_cons_zero, List.set_cons_succ]
    refine wpAnyH_done (by kernel_rfl) ?_ _
    go_wp2
    refine bodyPost_ret (v := .tuple #[.agg #[.int .i64 now, .int .i64 mx, .slice A' r.2.length c'], .int .i64 r.1]) (by simp [results, Try.results69, go_sem, u0, u1, u2]) rfl ⟨_, rfl, ⟨_, rfl, ?_⟩, ?_⟩
    · exact ownsRow_mono (ownsRow_setCell_below (ownsRow_setCell_below (ownsRow_setCell_below hrow (by have := hb0.size; first | (simp; done) | (simp at *; omega)) _) (by first | (simp; done) | (simp; omega)) _) (by first | (simp; done) | (simp; omega)) _) (by have := hb0.size; simp; omega)
    · exact (((hb0.trans (hX.mono hb0.size)).setCell (by simp) _).setCell (by simp) _).setCell (by simp) _


  | true =>
    rw [hq] at hsome
    cases h1 : decide (-1 ≤ ver) with
    | false =>
      rw [show giveL now mx ls i who ver = doL (giveF who ver) now mx ls i false from by simp [giveL, hq, h1]]
      have hcon := hcon false
      generalize doL (giveF who ver) now mx ls i false = r at *
      go_enter Try.func69, Try.ntmps69
      go_wp2_with fail
      have hA0 : Blk ((w.alloc (.cells #[.int .i64 now, .int .i64 mx, .slice A ls.length c] 30)).alloc (.cells #[.int .i64 0, .int .i64 0, .slice none 0 0] 30)) w.heap.size 30 #[.int .i64 now, .int .i64 mx, .slice A ls.length c] := (Blk.new_ w _ _ _ rfl).alloc _
      have hA1 : Blk ((w.alloc (.cells #[.int .i64 now, .int .i64 mx, .slice A ls.length c] 30)).alloc (.cells #[.int .i64 0, .int .i64 0, .slice none 0 0] 30)) (w.heap.size + 1) 30 #[.int .i64 0, .int .i64 0, .slice none 0 0] := Blk.new_ _ _ _ _ (by simp)
      obtain ⟨w1, hw1⟩ : ∃ x, ((w.alloc (.cells #[.int .i64 now, .int .i64 mx, .slice A ls.length c] 30)).alloc (.cells #[.int .i64 0, .int .i64 0, .slice none 0 0] 30)) = x := ⟨_, rfl⟩
      rw [hw1] at hA0 hA1 hb0 ⊢
      clear hw1
      have s0 : w1.cell? ⟨w.heap.size, 0, none⟩ = some (.int .i64 now) := by rw [hA0.cell]; rfl
      have s1 : w1.cell? ⟨w.heap.size, 1, none⟩ = some (.int .i64 mx) := by rw [hA0.cell]; rfl
      have s2 : w1.cell? ⟨w.heap.size, 2, none⟩ = some (.slice A ls.length c) := by rw [hA0.cell]; rfl
      have sf0 : w1.frozen? ⟨w.heap.size, 0, none⟩ = false := hA0.free 0
      have sf1 : w1.frozen? ⟨w.heap.size, 1, none⟩ = false := hA0.free 1
      have sf2 : w1.frozen? ⟨w.heap.size, 2, none⟩ = false := hA0.free 2
      have t0 : w1.cell? ⟨w.heap.size + 1, 0, none⟩ = some (.int .i64 0) := by rw [hA1.cell]; rfl
      have t1 : w1.cell? ⟨w.heap.size + 1, 1, none⟩ = some (.int .i64 0) := by rw [hA1.cell]; rfl
      have t2 : w1.cell? ⟨w.heap.size + 1, 2, none⟩ = some (.slice none 0 0) := by rw [hA1.cell]; rfl
      have tf0 : w1.frozen? ⟨w.heap.size + 1, 0, none⟩ = false := hA1.free 0
      have tf1 : w1.frozen? ⟨w.heap.size + 1, 1, none⟩ = false := hA1.free 1
      have tf2 : w1.frozen? ⟨w.heap.size + 1, 2, none⟩ = false := hA1.free 2
      have l0 := hA0.lt
      have l1 := hA1.lt
      have BW := (Below.refl w1.heap.size w1).drew
      have BZ := hb0.trans (BW.mono hb0.size)
      have hcall := hcon _ BZ
      clear hcon
      refine wp_region_held_drew (S := fun w' => w'.cell? ⟨w.heap.size, 0, none⟩ = some (.int .i64 now) ∧ w'.cell? ⟨w.heap.size, 1, none⟩ = some (.int .i64 mx) ∧ w'.cell? ⟨w.heap.size, 2, none⟩ = some (.slice A ls.length c)) (by kernel_rfl) ?_ (fun hHeldcr => ?_)
      · exact ⟨s0, s1, s2⟩
      refine wpAnyH_take (i := 0) (oi := { dst := some 10, op := Op.load 30 (Operand.tmp 4), type := 30, pos := "lock.go:90", after := _, guard := none }) (v := ?vcr0) rfl (by kernel_rfl) (by kernel_rfl) (by kernel_rfl) (fun _ _ _ h => h) (Or.inl ⟨by rfl, ?hycr0⟩) (by assumption) ?restcr0
      case hycr0 => (intro w hSw; (try dsimp only at hSw); go_simp <;> with_reducible rfl)
      try simp only [Act.put, List.setIfInBounds_toArray, List.set_cons_zero, List.set_cons_succ]
      refine wpAnyH_take (i := 1) (oi := { dst := some 11, op := Op.move (Operand.tmp 1), type := 3, pos := "lock.go:90", after := _, guard := none }) (v := ?vcr1) rfl (by kernel_rfl) (by kernel_rfl) (by kernel_rfl) (fun _ _ _ h => h) (Or.inl ⟨by rfl, ?hycr1⟩) (by assumption) ?restcr1
      case hycr1 => (intro w hSw; (try dsimp only at hSw); go_simp <;> with_reducible rfl)
      try simp only [Act.put, List.setIfInBounds_toArray, List.set_cons_zero, List.set_cons_succ]
      refine wpAnyH_take (i := 2) (oi := { dst := some 12, op := Op.move (Operand.tmp 2), type := 3, pos := "lock.go:90", after := _, guard := none }) (v := ?vcr2) rfl (by kernel_rfl) (by kernel_rfl) (by kernel_rfl) (fun _ _ _ h => h) (Or.inl ⟨by rfl, ?hycr2⟩) (by assumption) ?restcr2
      case hycr2 => (intro w hSw; (try dsimp only at hSw); go_simp <;> with_reducible rfl)
      try simp only [Act.put, List.setIfInBounds_toArray, List.set_cons_zero, List.set_cons_succ]
      refine wpAnyH_take (i := 14) (oi := { dst := some 24, op := Op.move (Operand.tmp 2), type := 3, pos := "lock.go:90", after := _, guard := none }) (v := ?vcr14) rfl (by kernel_rfl) (by kernel_rfl) (by kernel_rfl) (fun _ _ _ h => h) (Or.inl ⟨by rfl, ?hycr14⟩) (by assumption) ?restcr14
      case hycr14 => (intro w hSw; (try dsimp only at hSw); go_simp <;> with_reducible rfl)
      try simp only [Act.put, List.setIfInBounds_toArray, List.set_cons_zero, List.set_cons_succ]
      refine wpAnyH_take (i := 15) (oi := { dst := some 25, op := Op.move (Operand.tmp 3), type := 3, pos := "lock.go:90", after := _, guard := none }) (v := ?vcr15) rfl (by kernel_rfl) (by kernel_rfl) (by kernel_rfl) (fun _ _ _ h => h) (Or.inl ⟨by rfl, ?hycr15⟩) (by assumption) ?restcr15
      case hycr15 => (intro w hSw; (try dsimp only at hSw); go_simp <;> with_reducible rfl)
      try simp only [Act.put, List.setIfInBounds_toArray, List.set_cons_zero, List.set_cons_succ]
      refine wpAnyH_take (i := 16) (oi := { dst := some 26, op := Op.build 114 #[(0, Operand.tmp 24), (1, Operand.tmp 25)], type := 114, pos := "lock.go:90", after := _, guard := none }) (v := ?vcr16) rfl (by kernel_rfl) (by kernel_rfl) (by kernel_rfl) (fun _ _ _ h => h) (Or.inl ⟨by rfl, ?hycr16⟩) (by assumption) ?restcr16
      case hycr16 => (intro w hSw; (try dsimp only at hSw); go_simp <;> with_reducible rfl)
      try simp only [Act.put, List.setIfInBounds_toArray, List.set_cons_zero, List.set_cons_succ]
      refine wpAnyH_take (i := 17) (oi := { dst := some 27, op := Op.makeFunc (Fn.func 92) #[Operand.tmp 26] #[], type := 112, pos := "lock.go:90", after := _, guard := none }) (v := ?vcr17) rfl (by kernel_rfl) (by kernel_rfl) (by kernel_rfl) (fun _ _ _ h => h) (Or.inl ⟨by rfl, ?hycr17⟩) (by assumption) ?restcr17
      case hycr17 => (intro w hSw; (try dsimp only at hSw); go_simp <;> with_reducible rfl)
      try simp only [Act.put, List.setIfInBounds_toArray, List.set_cons_zero, List.set_cons_succ]
      refine wpAnyH_ready (rs := [3]) (by kernel_rfl) (by simp) ?_
      refine AllReadyH.cons (o := { dst := some 13, op := Op.call { callee := Callee.value (Operand.func 87), args := #[Operand.tmp 12], argTypes := #[3] }, type := 4, pos := "lock.go:90", after := _, guard := none }) rfl (fun K hK => ?_) AllReadyH.nil
      go_simp
      refine (hsome _).mono ?_
      rintro e w' ⟨rfl, rfl⟩
      try go_wp2_with fail
      refine hK.out _ _ ?_ (fun hHeldcr3 => ?_)
      · exact ⟨s0, s1, s2⟩
      clear hK K hHeldcr
      try simp only [Act.put, List.setIfInBounds_toArray, List.set_cons_zero, List.set_cons_succ]
      refine wpAnyH_take (i := 4) (oi := { dst := some 14, op := Op.move (Operand.tmp 13), type := 4, pos := "lock.go:90", after := _, guard := none }) (v := ?vcr4) rfl (by kernel_rfl) (by kernel_rfl) (by kernel_rfl) (fun _ _ _ h => h) (Or.inl ⟨by rfl, ?hycr4⟩) (by assumption) ?restcr4
      case hycr4 => (intro w hSw; (try dsimp only at hSw); go_simp <;> with_reducible rfl)
      try simp only [Act.put, List.setIfInBounds_toArray, List.set_cons_zero, List.set_cons_succ]
      refine wpAnyH_take (i := 5) (oi := { dst := some 15, op := Op.move (Operand.tmp 3), type := 3, pos := "lock.go:90", after := _, guard := some (4, true) }) (v := ?vcr5) rfl (by kernel_rfl) (by kernel_rfl) (by kernel_rfl) (fun _ _ _ h => h) (Or.inl ⟨by rfl, ?hycr5⟩) (by assumption) ?restcr5
      case hycr5 => (intro w hSw; (try dsimp only at hSw); go_simp <;> with_reducible rfl)
      try simp only [Act.put, List.setIfInBounds_toArray, List.set_cons_zero, List.set_cons_succ]
      refine wpAnyH_take (i := 6) (oi := { dst := some 16, op := Op.binOp BinOp.geq 3 (Operand.tmp 15) (Operand.const (Value.int IntKind.i64 (-1))) 3, type := 4, pos := "lock.go:90", after := _, guard := some (4, true) }) (v := ?vcr6) rfl (by kernel_rfl) (by kernel_rfl) (by kernel_rfl) (fun _ _ _ h => h) (Or.inl ⟨by rfl, ?hycr6⟩) (by assumption) ?restcr6
      case hycr6 => (intro w hSw; (try dsimp only at hSw); go_simp <;> with_reducible rfl)
      try simp only [Act.put, List.setIfInBounds_toArray, List.set_cons_zero, List.set_cons_succ]
      refine wpAnyH_take (i := 7) (oi := { dst := some 17, op := Op.pick (Operand.tmp 14) (Operand.tmp 16) (Operand.const (Value.bool false)), type := 4, pos := "lock.go:90", after := _, guard := none }) (v := ?vcr7) rfl (by kernel_rfl) (by kernel_rfl) (by kernel_rfl) (fun _ _ _ h => h) (Or.inl ⟨by rfl, ?hycr7⟩) (by assumption) ?restcr7
      case hycr7 => (intro w hSw; (try dsimp only at hSw); go_simp <;> with_reducible rfl)
      try simp only [Act.put, List.setIfInBounds_toArray, List.set_cons_zero, List.set_cons_succ]
      refine wpAnyH_take (i := 8) (oi := { dst := some 18, op := Op.move (Operand.tmp 17), type := 4, pos := "lock.go:90", after := _, guard := none }) (v := ?vcr8) rfl (by kernel_rfl) (by kernel_rfl) (by kernel_rfl) (fun _ _ _ h => h) (Or.inl ⟨by rfl, ?hycr8⟩) (by assumption) ?restcr8
      case hycr8 => (intro w hSw; (try dsimp only at hSw); go_simp <;> with_reducible rfl)
      try simp only [Act.put, List.setIfInBounds_toArray, List.set_cons_zero, List.set_cons_succ]
      refine wpAnyH_take (i := 9) (oi := { dst := some 19, op := Op.move (Operand.tmp 3), type := 3, pos := "lock.go:90", after := _, guard := some (8, true) }) rfl (by kernel_rfl) (by kernel_rfl) (by kernel_rfl) (fun _ _ _ h => h) (Or.inr ⟨by rfl, rfl⟩) (by assumption) ?_
      try simp only [Act.put, List.setIfInBounds_toArray, List.set_cons_zero, List.set_cons_succ]
      refine wpAnyH_take (i := 10) (oi := { dst := some 20, op := Op.fieldAddr 30 (Operand.tmp 4) 0, type := 0, pos := "lock.go:90", after := _, guard := some (8, true) }) rfl (by kernel_rfl) (by kernel_rfl) (by kernel_rfl) (fun _ _ _ h => h) (Or.inr ⟨by rfl, rfl⟩) (by assumption) ?_
      try simp only [Act.put, List.setIfInBounds_toArray, List.set_cons_zero, List.set_cons_succ]
      refine wpAnyH_take (i := 11) (oi := { dst := some 21, op := Op.load 3 (Operand.tmp 20), type := 3, pos := "lock.go:90", after := _, guard := some (8, true) }) rfl (by kernel_rfl) (by kernel_rfl) (by kernel_rfl) (fun _ _ _ h => h) (Or.inr ⟨by rfl, rfl⟩) (by assumption) ?_
      try simp only [Act.put, List.setIfInBounds_toArray, List.set_cons_zero, List.set_cons_succ]
      refine wpAnyH_take (i := 12) (oi := { dst := some 22, op := Op.binOp BinOp.leq 3 (Operand.tmp 19) (Operand.tmp 21) 3, type := 4, pos := "lock.go:90", after := _, guard := some (8, true) }) rfl (by kernel_rfl) (by kernel_rfl) (by kernel_rfl) (fun _ _ _ h => h) (Or.inr ⟨by rfl, rfl⟩) (by assumption) ?_
      try simp only [Act.put, List.setIfInBounds_toArray, List.set_cons_zero, List.set_cons_succ]
      refine wpAnyH_take (i := 13) (oi := { dst := some 23, op := Op.pick (Operand.tmp 18) (Operand.tmp 22) (Operand.const (Value.bool false)), type := 4, pos := "lock.go:90", after := _, guard := none }) (v := ?vcr13) rfl (by kernel_rfl) (by kernel_rfl) (by kernel_rfl) (fun _ _ _ h => h) (Or.inl ⟨by rfl, ?hycr13⟩) (by assumption) ?restcr13
      case hycr13 => (intro w hSw; (try dsimp only at hSw); go_simp <;> with_reducible rfl)
      try simp only [Act.put, List.setIfInBounds_toArray, List.set_cons_zero, List.set_cons_succ]
      refine wpAnyH_ready (rs := [18]) (by kernel_rfl) (by simp) ?_
      refine AllReadyH.cons (o := { dst := some 28, op := Op.call { callee := Callee.value (Operand.func 86), args := #[Operand.tmp 10, Operand.tmp 11, Operand.tmp 23, Operand.tmp 27], argTypes := #[30, 3, 4, 112] }, type := 92, pos := "lock.go:90", after := _, guard := none }) rfl (fun K hK => ?_) AllReadyH.nil
      go_simp
      refine hcall.mono ?_
      rintro e w' ⟨v', rfl, ⟨sv, rfl, hrow⟩, hb'⟩
      have hX := BW.trans (hb'.mono BW.size)
      obtain ⟨A', c', rfl, _, _⟩ := (Sl.of_own hrow).form
      have u0 := (hX.cell (p := ⟨w.heap.size + 1, 0, none⟩) l1).trans t0
      have u1 := (hX.cell (p := ⟨w.heap.size + 1, 1, none⟩) l1).trans t1
      have u2 := (hX.cell (p := ⟨w.heap.size + 1, 2, none⟩) l1).trans t2
      have uf0 := (hX.frozen (p := ⟨w.heap.size + 1, 0, none⟩) l1).trans tf0
      have uf1 := (hX.frozen (p := ⟨w.heap.size + 1, 1, none⟩) l1).trans tf1
      have uf2 := (hX.frozen (p := ⟨w.heap.size + 1, 2, none⟩) l1).trans tf2
      try go_wp2_with fail
      refine hK.out _ _ ?_ (fun hHeldcr18 => ?_)
      · exact ⟨(hX.cell (p := ⟨w.heap.size, 0, none⟩) l0).trans s0, (hX.cell (p := ⟨w.heap.size, 1, none⟩) l0).trans s1, (hX.cell (p := ⟨w.heap.size, 2, none⟩) l0).trans s2⟩
      clear hK K hHeldcr3
      try simp only [Act.put, List.setIfInBounds_toArray, List.set_cons_zero, List.set_cons_succ]
      refine wpAnyH_take (i := 19) (oi := { dst := some 29, op := Op.extract (Operand.tmp 28) 0, type := 30, pos := "lock.go:90", after := _, guard := none }) (v := ?vcr19) rfl (by kernel_rfl) (by kernel_rfl) (by kernel_rfl) (fun _ _ _ h => h) (Or.inl ⟨by rfl, ?hycr19⟩) (by assumption) ?restcr19
      case hycr19 => (intro w hSw; (try dsimp only at hSw); go_simp <;> with_reducible rfl)
      try simp only [Act.put, List.setIfInBounds_toArray, List.set_cons_zero, List.set_cons_succ]
      refine wpAnyH_take (i := 20) (oi := { dst := some 30, op := Op.extract (Operand.tmp 28) 1, type := 91, pos := "lock.go:90", after := _, guard := none }) (v := ?vcr20) rfl (by kernel_rfl) (by kernel_rfl) (by kernel_rfl) (fun _ _ _ h => h) (Or.inl ⟨by rfl, ?hycr20⟩) (by assumption) ?restcr20
      case hycr20 => (intro w hSw; (try dsimp only at hSw); go_simp <;> with_reducible rfl)
      try simp only [Act.put, List.setIfInBounds_toArray, List.set_cons_zero, List.set_cons_succ]
      refine wpAnyH_ready (rs := [21]) (by kernel_rfl) (by simp) ?_
      refine AllReadyH.cons (o := { dst := none, op := Op.store 30 (Operand.tmp 8) (Operand.tmp 29), type := 0, pos := "lock.go:90", after := _, guard := none }) rfl (fun K hK => ?_) AllReadyH.nil
      go_simp
      skip
      refine hK.out _ _ ?_ (fun hHeldcr21 => ?_)
      · go_keep
      clear hK K hHeldcr18
      try simp only [Act.put, List.setIfInBounds_toArray, List.set_cons_zero, List.set_cons_succ]
      refine wpAnyH_ready (rs := [22]) (by kernel_rfl) (by simp) ?_
      refine AllReadyH.cons (o := { dst := some 9, op := Op.assign (Operand.tmp 30), type := 91, pos := "lock.go:90", after := _, guard := none }) rfl (fun K hK => ?_) AllReadyH.nil
      go_simp
      skip
      refine hK.out _ _ ?_ (fun hHeldcr22 => ?_)
      · go_keep
      clear hK K hHeldcr21
      try simp only [Act.put, List.setIfInBounds_toArray, List.set_cons_zero, List.set_cons_succ]
      refine wpAnyH_done (by kernel_rfl) ?_ _
      go_wp2
      refine bodyPost_ret (v := .tuple #[.agg #[.int .i64 now, .int .i64 mx, .slice A' r.2.length c'], .int .i64 r.1]) (by simp [results, Try.results69, go_sem, u0, u1, u2]) rfl ⟨_, rfl, ⟨_, rfl, ?_⟩, ?_⟩
      · exact ownsRow_mono (ownsRow_setCell_below (ownsRow_setCell_below (ownsRow_setCell_below hrow (by have := hb0.size; first | (simp; done) | (simp at *; omega)) _) (by first | (simp; done) | (simp; omega)) _) (by first | (simp; done) | (simp; omega)) _) (by have := hb0.size; simp; omega)
      · exact (((hb0.trans (hX.mono hb0.size)).setCell (by simp) _).setCell (by simp) _).setCell (by simp) _
  
  
    | true =>
      rw [show giveL now mx ls i who ver = doL (giveF who ver) now mx ls i (decide (ver ≤ now)) from by simp [giveL, hq, h1]]
      have hcon := hcon (decide (ver ≤ now))
      generalize doL (giveF who ver) now mx ls i (decide (ver ≤ now)) = r at *
      go_enter Try.func69, Try.ntmps69
      go_wp2_with fail
      have hA0 : Blk ((w.alloc (.cells #[.int .i64 now, .int .i64 mx, .slice A ls.length c] 30)).alloc (.cells #[.int .i64 0, .int .i64 0, .slice none 0 0] 30)) w.heap.size 30 #[.int .i64 now, .int .i64 mx, .slice A ls.length c] := (Blk.new_ w _ _ _ rfl).alloc _
      have hA1 : Blk ((w.alloc (.cells #[.int .i64 now, .int .i64 mx, .slice A ls.length c] 30)).alloc (.cells #[.int .i64 0, .int .i64 0, .slice none 0 0] 30)) (w.heap.size + 1) 30 #[.int .i64 0, .int .i64 0, .slice none 0 0] := Blk.new_ _ _ _ _ (by simp)
      obtain ⟨w1, hw1⟩ : ∃ x, ((w.alloc (.cells #[.int .i64 now, .int .i64 mx, .slice A ls.length c] 30)).alloc (.cells #[.int .i64 0, .int .i64 0, .slice none 0 0] 30)) = x := ⟨_, rfl⟩
      rw [hw1] at hA0 hA1 hb0 ⊢
      clear hw1
      have s0 : w1.cell? ⟨w.heap.size, 0, none⟩ = some (.int .i64 now) := by rw [hA0.cell]; rfl
      have s1 : w1.cell? ⟨w.heap.size, 1, none⟩ = some (.int .i64 mx) := by rw [hA0.cell]; rfl
      have s2 : w1.cell? ⟨w.heap.size, 2, none⟩ = some (.slice A ls.length c) := by rw [hA0.cell]; rfl
      have sf0 : w1.frozen? ⟨w.heap.size, 0, none⟩ = false := hA0.free 0
      have sf1 : w1.frozen? ⟨w.heap.size, 1, none⟩ = false := hA0.free 1
      have sf2 : w1.frozen? ⟨w.heap.size, 2, none⟩ = false := hA0.free 2
      have t0 : w1.cell? ⟨w.heap.size + 1, 0, none⟩ = some (.int .i64 0) := by rw [hA1.cell]; rfl
      have t1 : w1.cell? ⟨w.heap.size + 1, 1, none⟩ = some (.int .i64 0) := by rw [hA1.cell]; rfl
      have t2 : w1.cell? ⟨w.heap.size + 1, 2, none⟩ = some (.slice none 0 0) := by rw [hA1.cell]; rfl
      have tf0 : w1.frozen? ⟨w.heap.size + 1, 0, none⟩ = false := hA1.free 0
      have tf1 : w1.frozen? ⟨w.heap.size + 1, 1, none⟩ = false := hA1.free 1
      have tf2 : w1.frozen? ⟨w.heap.size + 1, 2, none⟩ = false := hA1.free 2
      have l0 := hA0.lt
      have l1 := hA1.lt
      have BW := (Below.refl w1.heap.size w1).drew
      have BZ := hb0.trans (BW.mono hb0.size)
      have hcall := hcon _ BZ
      clear hcon
      refine wp_region_held_drew (S := fun w' => w'.cell? ⟨w.heap.size, 0, none⟩ = some (.int .i64 now) ∧ w'.cell? ⟨w.heap.size, 1, none⟩ = some (.int .i64 mx) ∧ w'.cell? ⟨w.heap.size, 2, none⟩ = some (.slice A ls.length c)) (by kernel_rfl) ?_ (fun hHelddr => ?_)
      · exact ⟨s0, s1, s2⟩
      refine wpAnyH_take (i := 0) (oi := { dst := some 10, op := Op.load 30 (Operand.tmp 4), type := 30, pos := "lock.go:90", after := _, guard := none }) (v := ?vdr0) rfl (by kernel_rfl) (by kernel_rfl) (by kernel_rfl) (fun _ _ _ h => h) (Or.inl ⟨by rfl, ?hydr0⟩) (by assumption) ?restdr0
      case hydr0 => (intro w hSw; (try dsimp only at hSw); go_simp <;> with_reducible rfl)
      try simp only [Act.put, List.setIfInBounds_toArray, List.set_cons_zero, List.set_cons_succ]
      refine wpAnyH_take (i := 1) (oi := { dst := some 11, op := Op.move (Operand.tmp 1), type := 3, pos := "lock.go:90", after := _, guard := none }) (v := ?vdr1) rfl (by kernel_rfl) (by kernel_rfl) (by kernel_rfl) (fun _ _ _ h => h) (Or.inl ⟨by rfl, ?hydr1⟩) (by assumption) ?restdr1
      case hydr1 => (intro w hSw; (try dsimp only at hSw); go_simp <;> with_reducible rfl)
      try simp only [Act.put, List.setIfInBounds_toArray, List.set_cons_zero, List.set_cons_succ]
      refine wpAnyH_take (i := 2) (oi := { dst := some 12, op := Op.move (Operand.tmp 2), type := 3, pos := "lock.go:90", after := _, guard := none }) (v := ?vdr2) rfl (by kernel_rfl) (by kernel_rfl) (by kernel_rfl) (fun _ _ _ h => h) (Or.inl ⟨by rfl, ?hydr2⟩) (by assumption) ?restdr2
      case hydr2 => (intro w hSw; (try dsimp only at hSw); go_simp <;> with_reducible rfl)
      try simp only [Act.put, List.setIfInBounds_toArray, List.set_cons_zero, List.set_cons_succ]
      refine wpAnyH_take (i := 14) (oi := { dst := some 24, op := Op.move (Operand.tmp 2), type := 3, pos := "lock.go:90", after := _, guard := none }) (v := ?vdr14) rfl (by kernel_rfl) (by kernel_rfl) (by kernel_rfl) (fun _ _ _ h => h) (Or.inl ⟨by rfl, ?hydr14⟩) (by assumption) ?restdr14
      case hydr14 => (intro w hSw; (try dsimp only at hSw); go_simp <;> with_reducible rfl)
      try simp only [Act.put, List.setIfInBounds_toArray, List.set_cons_zero, List.set_cons_succ]
      refine wpAnyH_take (i := 15) (oi := { dst := some 25, op := Op.move (Operand.tmp 3), type := 3, pos := "lock.go:90", after := _, guard := none }) (v := ?vdr15) rfl (by kernel_rfl) (by kernel_rfl) (by kernel_rfl) (fun _ _ _ h => h) (Or.inl ⟨by rfl, ?hydr15⟩) (by assumption) ?restdr15
      case hydr15 => (intro w hSw; (try dsimp only at hSw); go_simp <;> with_reducible rfl)
      try simp only [Act.put, List.setIfInBounds_toArray, List.set_cons_zero, List.set_cons_succ]
      refine wpAnyH_take (i := 16) (oi := { dst := some 26, op := Op.build 114 #[(0, Operand.tmp 24), (1, Operand.tmp 25)], type := 114, pos := "lock.go:90", after := _, guard := none }) (v := ?vdr16) rfl (by kernel_rfl) (by kernel_rfl) (by kernel_rfl) (fun _ _ _ h => h) (Or.inl ⟨by rfl, ?hydr16⟩) (by assumption) ?restdr16
      case hydr16 => (intro w hSw; (try dsimp only at hSw); go_simp <;> with_reducible rfl)
      try simp only [Act.put, List.setIfInBounds_toArray, List.set_cons_zero, List.set_cons_succ]
      refine wpAnyH_take (i := 17) (oi := { dst := some 27, op := Op.makeFunc (Fn.func 92) #[Operand.tmp 26] #[], type := 112, pos := "lock.go:90", after := _, guard := none }) (v := ?vdr17) rfl (by kernel_rfl) (by kernel_rfl) (by kernel_rfl) (fun _ _ _ h => h) (Or.inl ⟨by rfl, ?hydr17⟩) (by assumption) ?restdr17
      case hydr17 => (intro w hSw; (try dsimp only at hSw); go_simp <;> with_reducible rfl)
      try simp only [Act.put, List.setIfInBounds_toArray, List.set_cons_zero, List.set_cons_succ]
      refine wpAnyH_ready (rs := [3]) (by kernel_rfl) (by simp) ?_
      refine AllReadyH.cons (o := { dst := some 13, op := Op.call { callee := Callee.value (Operand.func 87), args := #[Operand.tmp 12], argTypes := #[3] }, type := 4, pos := "lock.go:90", after := _, guard := none }) rfl (fun K hK => ?_) AllReadyH.nil
      go_simp
      refine (hsome _).mono ?_
      rintro e w' ⟨rfl, rfl⟩
      try go_wp2_with fail
      refine hK.out _ _ ?_ (fun hHelddr3 => ?_)
      · exact ⟨s0, s1, s2⟩
      clear hK K hHelddr
      try simp only [Act.put, List.setIfInBounds_toArray, List.set_cons_zero, List.set_cons_succ]
      refine wpAnyH_take (i := 4) (oi := { dst := some 14, op := Op.move (Operand.tmp 13), type := 4, pos := "lock.go:90", after := _, guard := none }) (v := ?vdr4) rfl (by kernel_rfl) (by kernel_rfl) (by kernel_rfl) (fun _ _ _ h => h) (Or.inl ⟨by rfl, ?hydr4⟩) (by assumption) ?restdr4
      case hydr4 => (intro w hSw; (try dsimp only at hSw); go_simp <;> with_reducible rfl)
      try simp only [Act.put, List.setIfInBounds_toArray, List.set_cons_zero, List.set_cons_succ]
      refine wpAnyH_take (i := 5) (oi := { dst := some 15, op := Op.move (Operand.tmp 3), type := 3, pos := "lock.go:90", after := _, guard := some (4, true) }) (v := ?vdr5) rfl (by kernel_rfl) (by kernel_rfl) (by kernel_rfl) (fun _ _ _ h => h) (Or.inl ⟨by rfl, ?hydr5⟩) (by assumption) ?restdr5
      case hydr5 => (intro w hSw; (try dsimp only at hSw); go_simp <;> with_reducible rfl)
      try simp only [Act.put, List.setIfInBounds_toArray, List.set_cons_zero, List.set_cons_succ]
      refine wpAnyH_take (i := 6) (oi := { dst := some 16, op := Op.binOp BinOp.geq 3 (Operand.tmp 15) (Operand.const (Value.int IntKind.i64 (-1))) 3, type := 4, pos := "lock.go:90", after := _, guard := some (4, true) }) (v := ?vdr6) rfl (by kernel_rfl) (by kernel_rfl) (by kernel_rfl) (fun _ _ _ h => h) (Or.inl ⟨by rfl, ?hydr6⟩) (by assumption) ?restdr6
      case hydr6 => (intro w hSw; (try dsimp only at hSw); go_simp <;> with_reducible rfl)
      try simp only [Act.put, List.setIfInBounds_toArray, List.set_cons_zero, List.set_cons_succ]
      refine wpAnyH_take (i := 7) (oi := { dst := some 17, op := Op.pick (Operand.tmp 14) (Operand.tmp 16) (Operand.const (Value.bool false)), type := 4, pos := "lock.go:90", after := _, guard := none }) (v := ?vdr7) rfl (by kernel_rfl) (by kernel_rfl) (by kernel_rfl) (fun _ _ _ h => h) (Or.inl ⟨by rfl, ?hydr7⟩) (by assumption) ?restdr7
      case hydr7 => (intro w hSw; (try dsimp only at hSw); go_simp <;> with_reducible rfl)
      try simp only [Act.put, List.setIfInBounds_toArray, List.set_cons_zero, List.set_cons_succ]
      refine wpAnyH_take (i := 8) (oi := { dst := some 18, op := Op.move (Operand.tmp 17), type := 4, pos := "lock.go:90", after := _, guard := none }) (v := ?vdr8) rfl (by kernel_rfl) (by kernel_rfl) (by kernel_rfl) (fun _ _ _ h => h) (Or.inl ⟨by rfl, ?hydr8⟩) (by assumption) ?restdr8
      case hydr8 => (intro w hSw; (try dsimp only at hSw); go_simp <;> with_reducible rfl)
      try simp only [Act.put, List.setIfInBounds_toArray, List.set_cons_zero, List.set_cons_succ]
      refine wpAnyH_take (i := 9) (oi := { dst := some 19, op := Op.move (Operand.tmp 3), type := 3, pos := "lock.go:90", after := _, guard := some (8, true) }) (v := ?vdr9) rfl (by kernel_rfl) (by kernel_rfl) (by kernel_rfl) (fun _ _ _ h => h) (Or.inl ⟨by rfl, ?hydr9⟩) (by assumption) ?restdr9
      case hydr9 => (intro w hSw; (try dsimp only at hSw); go_simp <;> with_reducible rfl)
      try simp only [Act.put, List.setIfInBounds_toArray, List.set_cons_zero, List.set_cons_succ]
      refine wpAnyH_take (i := 10) (oi := { dst := some 20, op := Op.fieldAddr 30 (Operand.tmp 4) 0, type := 0, pos := "lock.go:90", after := _, guard := some (8, true) }) (v := ?vdr10) rfl (by kernel_rfl) (by kernel_rfl) (by kernel_rfl) (fun _ _ _ h => h) (Or.inl ⟨by rfl, ?hydr10⟩) (by assumption) ?restdr10
      case hydr10 => (intro w hSw; (try dsimp only at hSw); go_simp <;> with_reducible rfl)
      try simp only [Act.put, List.setIfInBounds_toArray, List.set_cons_zero, List.set_cons_succ]
      refine wpAnyH_take (i := 11) (oi := { dst := some 21, op := Op.load 3 (Operand.tmp 20), type := 3, pos := "lock.go:90", after := _, guard := some (8, true) }) (v := ?vdr11) rfl (by kernel_rfl) (by kernel_rfl) (by kernel_rfl) (fun _ _ _ h => h) (Or.inl ⟨by rfl, ?hydr11⟩) (by assumption) ?restdr11
      case hydr11 => (intro w hSw; (try dsimp only at hSw); go_simp <;> with_reducible rfl)
      try simp only [Act.put, List.setIfInBounds_toArray, List.set_cons_zero, List.set_cons_succ]
      refine wpAnyH_take (i := 12) (oi := { dst := some 22, op := Op.binOp BinOp.leq 3 (Operand.tmp 19) (Operand.tmp 21) 3, type := 4, pos := "lock.go:90", after := _, guard := some (8, true) }) (v := ?vdr12) rfl (by kernel_rfl) (by kernel_rfl) (by kernel_rfl) (fun _ _ _ h => h) (Or.inl ⟨by rfl, ?hydr12⟩) (by assumption) ?restdr12
      case hydr12 => (intro w hSw; (try dsimp only at hSw); go_simp <;> with_reducible rfl)
      try simp only [Act.put, List.setIfInBounds_toArray, List.set_cons_zero, List.set_cons_succ]
      refine wpAnyH_take (i := 13) (oi := { dst := some 23, op := Op.pick (Operand.tmp 18) (Operand.tmp 22) (Operand.const (Value.bool false)), type := 4, pos := "lock.go:90", after := _, guard := none }) (v := ?vdr13) rfl (by kernel_rfl) (by kernel_rfl) (by kernel_rfl) (fun _ _ _ h => h) (Or.inl ⟨by rfl, ?hydr13⟩) (by assumption) ?restdr13
      case hydr13 => (intro w hSw; (try dsimp only at hSw); go_simp <;> with_reducible rfl)
      try simp only [Act.put, List.setIfInBounds_toArray, List.set_cons_zero, List.set_cons_succ]
      refine wpAnyH_ready (rs := [18]) (by kernel_rfl) (by simp) ?_
      refine AllReadyH.cons (o := { dst := some 28, op := Op.call { callee := Callee.value (Operand.func 86), args := #[Operand.tmp 10, Operand.tmp 11, Operand.tmp 23, Operand.tmp 27], argTypes := #[30, 3, 4, 112] }, type := 92, pos := "lock.go:90", after := _, guard := none }) rfl (fun K hK => ?_) AllReadyH.nil
      go_simp
      refine hcall.mono ?_
      rintro e w' ⟨v', rfl, ⟨sv, rfl, hrow⟩, hb'⟩
      have hX := BW.trans (hb'.mono BW.size)
      obtain ⟨A', c', rfl, _, _⟩ := (Sl.of_own hrow).form
      have u0 := (hX.cell (p := ⟨w.heap.size + 1, 0, none⟩) l1).trans t0
      have u1 := (hX.cell (p := ⟨w.heap.size + 1, 1, none⟩) l1).trans t1
      have u2 := (hX.cell (p := ⟨w.heap.size + 1, 2, none⟩) l1).trans t2
      have uf0 := (hX.frozen (p := ⟨w.heap.size + 1, 0, none⟩) l1).trans tf0
      have uf1 := (hX.frozen (p := ⟨w.heap.size + 1, 1, none⟩) l1).trans tf1
      have uf2 := (hX.frozen (p := ⟨w.heap.size + 1, 2, none⟩) l1).trans tf2
      try go_wp2_with fail
      refine hK.out _ _ ?_ (fun hHelddr18 => ?_)
      · exact ⟨(hX.cell (p := ⟨w.heap.size, 0, none⟩) l0).trans s0, (hX.cell (p := ⟨w.heap.size, 1, none⟩) l0).trans s1, (hX.cell (p := ⟨w.heap.size, 2, none⟩) l0).trans s2⟩
      clear hK K hHelddr3
      try simp only [Act.put, List.setIfInBounds_toArray, List.set_cons_zero, List.set_cons_succ]
      refine wpAnyH_take (i := 19) (oi := { dst := some 29, op := Op.extract (Operand.tmp 28) 0, type := 30, pos := "lock.go:90", after := _, guard := none }) (v := ?vdr19) rfl (by kernel_rfl) (by kernel_rfl) (by kernel_rfl) (fun _ _ _ h => h) (Or.inl ⟨by rfl, ?hydr19⟩) (by assumption) ?restdr19
      case hydr19 => (intro w hSw; (try dsimp only at hSw); go_simp <;> with_reducible rfl)
      try simp only [Act.put, List.setIfInBounds_toArray, List.set_cons_zero, List.set_cons_succ]
      refine wpAnyH_take (i := 20) (oi := { dst := some 30, op := Op.extract (Operand.tmp 28) 1, type := 91, pos := "lock.go:90", after := _, guard := none }) (v := ?vdr20) rfl (by kernel_rfl) (by kernel_rfl) (by kernel_rfl) (fun _ _ _ h => h) (Or.inl ⟨by rfl, ?hydr20⟩) (by assumption) ?restdr20
      case hydr20 => (intro w hSw; (try dsimp only at hSw); go_simp <;> with_reducible rfl)
      try simp only [Act.put, List.setIfInBounds_toArray, List.set_cons_zero, List.set_cons_succ]
      refine wpAnyH_ready (rs := [21]) (by kernel_rfl) (by simp) ?_
      refine AllReadyH.cons (o := { dst := none, op := Op.store 30 (Operand.tmp 8) (Operand.tmp 29), type := 0, pos := "lock.go:90", after := _, guard := none }) rfl (fun K hK => ?_) AllReadyH.nil
      go_simp
      skip
      refine hK.out _ _ ?_ (fun hHelddr21 => ?_)
      · go_keep
      clear hK K hHelddr18
      try simp only [Act.put, List.setIfInBounds_toArray, List.set_cons_zero, List.set_cons_succ]
      refine wpAnyH_ready (rs := [22]) (by kernel_rfl) (by simp) ?_
      refine AllReadyH.cons (o := { dst := some 9, op := Op.assign (Operand.tmp 30), type := 91, pos := "lock.go:90", after := _, guard := none }) rfl (fun K hK => ?_) AllReadyH.nil
      go_simp
      skip
      refine hK.out _ _ ?_ (fun hHelddr22 => ?_)
      · go_keep
      clear hK K hHelddr21
      try simp only [Act.put, List.setIfInBounds_toArray, List.set_cons_zero, List.set_cons_succ]
      refine wpAnyH_done (by kernel_rfl) ?_ _
      go_wp2
      refine bodyPost_ret (v := .tuple #[.agg #[.int .i64 now, .int .i64 mx, .slice A' r.2.length c'], .int .i64 r.1]) (by simp [results, Try.results69, go_sem, u0, u1, u2]) rfl ⟨_, rfl, ⟨_, rfl, ?_⟩, ?_⟩
      · exact ownsRow_mono (ownsRow_setCell_below (ownsRow_setCell_below (ownsRow_setCell_below hrow (by have := hb0.size; first | (simp; done) | (simp at *; omega)) _) (by first | (simp; done) | (simp; omega)) _) (by first | (simp; done) | (simp; omega)) _) (by have := hb0.size; simp; omega)
      · exact (((hb0.trans (hX.mono hb0.size)).setCell (by simp) _).setCell (by simp) _).setCell (by simp) _
  
  

end Go.Proofs.Ytngimbfojccikaa
