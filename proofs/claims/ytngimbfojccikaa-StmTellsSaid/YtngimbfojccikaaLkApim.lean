/- lock.Take, Give, Tick. -/
import Derived.Test.YtngimbfojccikaaLkDom
namespace Go.Proofs.Ytngimbfojccikaa
set_option linter.unusedSimpArgs false
open Go Go.RowKit
set_option linter.unusedVariables false
attribute [local go_sem ↓] Go.wp_at_zero Go.wp_at_succ

/-- Is there such a one? -/
def someB (who : Int) : Bool := decide (0 ≤ who) && decide (who < 4)

set_option maxHeartbeats 400000 in
theorem some_any (who : Int) (w : World) : Calls Try.prog 87 #[.int .i64 who] w fun e w' => e = .returned (.bool (someB who)) ∧ w = w' := by
  by_cases h1 : 0 ≤ who
  · by_cases h2 : who < 4
    · rw [show someB who = true from by simp [someB, h1, h2]]
      go_enter Try.func87, Try.ntmps87
      go_wp2
      go_ret
      exact ⟨rfl, rfl⟩
    · rw [show someB who = false from by simp [someB, h2]]
      go_enter Try.func87, Try.ntmps87
      go_wp2
      go_ret
      exact ⟨rfl, rfl⟩
  · rw [show someB who = false from by simp [someB, h1]]
    go_enter Try.func87, Try.ntmps87
    go_wp2
    go_ret
    exact ⟨rfl, rfl⟩

def takeL (now mx : Int) (ls : List Lk) (i who : Int) : Int × List Lk := doL (takeF who) now mx ls i (someB who)

theorem doL_len (f : Lk → Int × Lk) (now mx : Int) (ls : List Lk) (i : Int) (b : Bool) : (doL f now mx ls i b).2.length = ls.length := by
  unfold doL
  split
  · split
    · simp
    · rfl
  · rfl

set_option maxHeartbeats 2000000 in
theorem Take_any (v : Value) (now mx i who : Int) (ls : List Lk) (w : World) (hv : LkV w v now mx ls) (hn : ls.length ≤ 1000) :
    Calls Try.prog 64 #[v, .int .i64 i, .int .i64 who] w (LkRes now mx (takeL now mx ls i who) w) := by
  obtain ⟨A, c, rfl, hv⟩ := hv.form
  have hb0 : Below w.heap.size w ((w.alloc (.cells #[.int .i64 now, .int .i64 mx, .slice A ls.length c] 30)).alloc (.cells #[.int .i64 0, .int .i64 0, .slice none 0 0] 30)) := ((Below.refl _ w).alloc (Nat.le_refl _) _).alloc (by simp) _
  have eg : ∀ args w, (callFunc 88 args).run Try.prog w = .ok (.enter 88 args) w := enters_of Try.func88 (by kernel_rfl) rfl
  have hcon := fun W (h : Below w.heap.size w W) => do_any 88 _ (takeF who) eg (take_spec who (-1)) now mx i (someB who) _ ls W (hv.sl.below h) hn
  have hsome := fun w => some_any who w
  clear hv eg hn
  rw [show takeL now mx ls i who = doL (takeF who) now mx ls i (someB who) from rfl]
  generalize doL (takeF who) now mx ls i (someB who) = r at *
  generalize someB who = q at *
  go_enter Try.func64, Try.ntmps64
  go_wp2_with fail
  have hA0 : Blk ((w.alloc (.cells #[.int .i64 now, .int .i64 mx, .slice A ls.length c] 30)).alloc (.cells #[.int .i64 0, .int .i64 0, .slice none 0 0] 30)) w.heap.size 30 #[.int .i64 now, .int .i64 mx, .slice A ls.length c] := (Blk.new_ w _ _ _ rfl).alloc _
  have hA1 : Blk ((w.alloc (.cells #[.int .i64 now, .int .i64 mx, .slice A ls.length c] 30)).alloc (.cells #[.int .i64 0, .int .i64 0, .slice none 0 0] 30)) (w.heap.size + 1) 30 #[.int .i64 0, .int .i64 0, .slice none 0 0] := Blk.new_ _ _ _ _ (by simp)
  obtain ⟨w1, hw1⟩ : ∃ x, ((w.alloc (.cells #[.int .i64 now, .int .i64 mx, .slice A ls.length c] 30)).alloc (.cells #[.int .i64 0, .int .i64 0, .slice none 0 0] 30)) = x := ⟨_, rfl⟩
  rw [hw1] at hA0 hA1 hb0 ⊢
  clear hw1
  have s0 : w1.cell? ⟨w.heap.size, 0, none⟩ = some (.int .i64 now) := by rw [hA0.cell]; rfl
  have s1 : w1.cell? ⟨w.heap.size, 1, none⟩ = some (.int .i64 mx) := by rw [hA0.cell]; rfl
  have s2 : w1.cell? ⟨w.heap.size, 2, none⟩ = some (.slice A ls.length c) := by rw [hA0.cell]; rfl
  have sf0 : w1.frozen? ⟨w.heap.size, 0, none⟩ = false := hA0.free 0
  have sf1 : w1.frozen? ⟨w.heap.size, 1, none⟩ = false := hA0.free 1
  have sf2 : w1.frozen? ⟨w.heap.size, 2, none⟩ = false := hA0.free 2
  have t0 : w1.cell? ⟨w.heap.size + 1, 0, none⟩ = some (.int .i64 0) := by rw [hA1.cell]; rfl
  have t1 : w1.cell? ⟨w.heap.size + 1, 1, none⟩ = some (.int .i64 0) := by rw [hA1.cell]; rfl
  have t2 : w1.cell? ⟨w.heap.size + 1, 2, none⟩ = some (.slice none 0 0) := by rw [hA1.cell]; rfl
  have tf0 : w1.frozen? ⟨w.heap.size + 1, 0, none⟩ = false := hA1.free 0
  have tf1 : w1.frozen? ⟨w.heap.size + 1, 1, none⟩ = false := hA1.free 1
  have tf2 : w1.frozen? ⟨w.heap.size + 1, 2, none⟩ = false := hA1.free 2
  have l0 := hA0.lt
  have l1 := hA1.lt
  have BW := (Below.refl w1.heap.size w1).drew
  have BZ := hb0.trans (BW.mono hb0.size)
  have hcall := hcon _ BZ
  clear hcon
  go_region_held3 (fun w' => w'.cell? ⟨w.heap.size, 0, none⟩ = some (.int .i64 now) ∧ w'.cell? ⟨w.heap.size, 1, none⟩ = some (.int .i64 mx) ∧ w'.cell? ⟨w.heap.size, 2, none⟩ = some (.slice A ls.length c))
    (first | exact ⟨s0, s1, s2⟩ | exact ⟨(hX.cell (p := ⟨w.heap.size, 0, none⟩) l0).trans s0, (hX.cell (p := ⟨w.heap.size, 1, none⟩) l0).trans s1, (hX.cell (p := ⟨w.heap.size, 2, none⟩) l0).trans s2⟩ | go_keep)
    (first | (go_at_call 87; refine (hsome _).mono ?_; rintro e w' ⟨rfl, rfl⟩) | (go_at_call 86; refine hcall.mono ?_; rintro e w' ⟨v', rfl, ⟨sv, rfl, hrow⟩, hb'⟩; have hX := BW.trans (hb'.mono BW.size); obtain ⟨A', c', rfl, _, _⟩ := (Sl.of_own hrow).form; have u0 := (hX.cell (p := ⟨w.heap.size + 1, 0, none⟩) l1).trans t0; have u1 := (hX.cell (p := ⟨w.heap.size + 1, 1, none⟩) l1).trans t1; have u2 := (hX.cell (p := ⟨w.heap.size + 1, 2, none⟩) l1).trans t2; have uf0 := (hX.frozen (p := ⟨w.heap.size + 1, 0, none⟩) l1).trans tf0; have uf1 := (hX.frozen (p := ⟨w.heap.size + 1, 1, none⟩) l1).trans tf1; have uf2 := (hX.frozen (p := ⟨w.heap.size + 1, 2, none⟩) l1).trans tf2))
  all_goals
    go_wp2
    refine bodyPost_ret (v := .tuple #[.agg #[.int .i64 now, .int .i64 mx, .slice A' r.2.length c'], .int .i64 r.1]) (by simp [results, Try.results64, go_sem, u0, u1, u2]) rfl ⟨_, rfl, ⟨_, rfl, ?_⟩, ?_⟩
    · exact ownsRow_mono (ownsRow_setCell_below (ownsRow_setCell_below (ownsRow_setCell_below hrow (by have := hb0.size; first | (simp; done) | (simp at *; omega)) _) (by first | (simp; done) | (simp; omega)) _) (by first | (simp; done) | (simp; omega)) _) (by have := hb0.size; simp; omega)
    · exact (((hb0.trans (hX.mono hb0.size)).setCell (by simp) _).setCell (by simp) _).setCell (by simp) _

def giveL (now mx : Int) (ls : List Lk) (i who ver : Int) : Int × List Lk := doL (giveF who ver) now mx ls i (someB who && (decide (-1 ≤ ver) && decide (ver ≤ now)))

set_option maxRecDepth 100000 in
set_option maxHeartbeats 4000000 in
theorem Give_any (v : Value) (now mx i who ver : Int) (ls : List Lk) (w : World) (hv : LkV w v now mx ls) (hn : ls.length ≤ 1000) :
    Calls Try.prog 69 #[v, .int .i64 i, .int .i64 who, .int .i64 ver] w (LkRes now mx (giveL now mx ls i who ver) w) := by
  obtain ⟨A, c, rfl, hv⟩ := hv.form
  have hb0 : Below w.heap.size w ((w.alloc (.cells #[.int .i64 now, .int .i64 mx, .slice A ls.length c] 30)).alloc (.cells #[.int .i64 0, .int .i64 0, .slice none 0 0] 30)) := ((Below.refl _ w).alloc (Nat.le_refl _) _).alloc (by simp) _
  have eg : ∀ args w, (callFunc 92 args).run Try.prog w = .ok (.enter 92 args) w := enters_of Try.func92 (by kernel_rfl) rfl
  have hcon := fun b W (h : Below w.heap.size w W) => do_any 92 _ (giveF who ver) eg (give_spec who ver) now mx i b _ ls W (hv.sl.below h) hn
  have hsome := fun w => some_any who w
  clear hv eg hn
  cases hq : someB who with
  | false =>
    rw [hq] at hsome
    rw [show giveL now mx ls i who ver = doL (giveF who ver) now mx ls i false from by simp [giveL, hq]]
    have hcon := hcon false
    generalize doL (giveF who ver) now mx ls i false = r at *
    go_enter Try.func69, Try.ntmps69
    go_wp2_with fail
    have hA0 : Blk ((w.alloc (.cells #[.int .i64 now, .int .i64 mx, .slice A ls.length c] 30)).alloc (.cells #[.int .i64 0, .int .i64 0, .slice none 0 0] 30)) w.heap.size 30 #[.int .i64 now, .int .i64 mx, .slice A ls.length c] := (Blk.new_ w _ _ _ rfl).alloc _
    have hA1 : Blk ((w.alloc (.cells #[.int .i64 now, .int .i64 mx, .slice A ls.length c] 30)).alloc (.cells #[.int .i64 0, .int .i64 0, .slice none 0 0] 30)) (w.heap.size + 1) 30 #[.int .i64 0, .int .i64 0, .slice none 0 0] := Blk.new_ _ _ _ _ (by simp)
    obtain ⟨w1, hw1⟩ : ∃ x, ((w.alloc (.cells #[.int .i64 now, .int .i64 mx, .slice A ls.length c] 30)).alloc (.cells #[.int .i64 0, .int .i64 0, .slice none 0 0] 30)) = x := ⟨_, rfl⟩
    rw [hw1] at hA0 hA1 hb0 ⊢
    clear hw1
    have s0 : w1.cell? ⟨w.heap.size, 0, none⟩ = some (.int .i64 now) := by rw [hA0.cell]; rfl
    have s1 : w1.cell? ⟨w.heap.size, 1, none⟩ = some (.int .i64 mx) := by rw [hA0.cell]; rfl
    have s2 : w1.cell? ⟨w.heap.size, 2, none⟩ = some (.slice A ls.length c) := by rw [hA0.cell]; rfl
    have sf0 : w1.frozen? ⟨w.heap.size, 0, none⟩ = false := hA0.free 0
    have sf1 : w1.frozen? ⟨w.heap.size, 1, none⟩ = false := hA0.free 1
    have sf2 : w1.frozen? ⟨w.heap.size, 2, none⟩ = false := hA0.free 2
    have t0 : w1.cell? ⟨w.heap.size + 1, 0, none⟩ = some (.int .i64 0) := by rw [hA1.cell]; rfl
    have t1 : w1.cell? ⟨w.heap.size + 1, 1, none⟩ = some (.int .i64 0) := by rw [hA1.cell]; rfl
    have t2 : w1.cell? ⟨w.heap.size + 1, 2, none⟩ = some (.slice none 0 0) := by rw [hA1.cell]; rfl
    have tf0 : w1.frozen? ⟨w.heap.size + 1, 0, none⟩ = false := hA1.free 0
    have tf1 : w1.frozen? ⟨w.heap.size + 1, 1, none⟩ = false := hA1.free 1
    have tf2 : w1.frozen? ⟨w.heap.size + 1, 2, none⟩ = false := hA1.free 2
    have l0 := hA0.lt
    have l1 := hA1.lt
    have BW := (Below.refl w1.heap.size w1).drew
    have BZ := hb0.trans (BW.mono hb0.size)
    have hcall := hcon _ BZ
    clear hcon
    refine wp_region_held_drew (S := fun w' => w'.cell? ⟨w.heap.size, 0, none⟩ = some (.int .i64 now) ∧ w'.cell? ⟨w.heap.size, 1, none⟩ = some (.int .i64 mx) ∧ w'.cell? ⟨w.heap.size, 2, none⟩ = some (.slice A ls.length c)) (by kernel_rfl) ?_ (fun hbr => ?_)
    · exact ⟨s0, s1, s2⟩
    refine tkA 0 ?_
    refine tkA 1 ?_
    refine tkA 2 ?_
    refine tkA 14 ?_
    refine tkA 15 ?_
    refine tkA 16 ?_
    refine tkA 17 ?_
    refine stA 3 (fun K hK => ?_)
    go_simp
    refine (hsome _).mono ?_
    rintro e w' ⟨rfl, rfl⟩
    try go_wp2_with fail
    refine hK.out _ _ ?_ (fun hbr3 => ?_)
    · exact ⟨s0, s1, s2⟩
    clear hK K hbr
    try simp only [Act.put, List.setIfInBounds_toArray, List.set_cons_zero, List.set_cons_succ]
    refine tkA 4 ?_
    refine skA 5 ?_
    refine skA 6 ?_
    refine tkA 7 ?_
    refine tkA 8 ?_
    refine skA 9 ?_
    refine skA 10 ?_
    refine skA 11 ?_
    refine skA 12 ?_
    refine tkA 13 ?_
    refine stA 18 (fun K hK => ?_)
    go_simp
    refine hcall.mono ?_
    rintro e w' ⟨v', rfl, ⟨sv, rfl, hrow⟩, hb'⟩
    have hX := BW.trans (hb'.mono BW.size)
    obtain ⟨A', c', rfl, _, _⟩ := (Sl.of_own hrow).form
    have u0 := (hX.cell (p := ⟨w.heap.size + 1, 0, none⟩) l1).trans t0
    have u1 := (hX.cell (p := ⟨w.heap.size + 1, 1, none⟩) l1).trans t1
    have u2 := (hX.cell (p := ⟨w.heap.size + 1, 2, none⟩) l1).trans t2
    have uf0 := (hX.frozen (p := ⟨w.heap.size + 1, 0, none⟩) l1).trans tf0
    have uf1 := (hX.frozen (p := ⟨w.heap.size + 1, 1, none⟩) l1).trans tf1
    have uf2 := (hX.frozen (p := ⟨w.heap.size + 1, 2, none⟩) l1).trans tf2
    try go_wp2_with fail
    refine hK.out _ _ ?_ (fun hbr18 => ?_)
    · exact ⟨(hX.cell (p := ⟨w.heap.size, 0, none⟩) l0).trans s0, (hX.cell (p := ⟨w.heap.size, 1, none⟩) l0).trans s1, (hX.cell (p := ⟨w.heap.size, 2, none⟩) l0).trans s2⟩
    clear hK K hbr3
    try simp only [Act.put, List.setIfInBounds_toArray, List.set_cons_zero, List.set_cons_succ]
    refine tkA 19 ?_
    refine tkA 20 ?_
    refine stA 21 (fun K hK => ?_)
    go_simp
    refine hK.out _ _ ?_ (fun hbr21 => ?_)
    · go_keep
    clear hK K hbr18
    try simp only [Act.put, List.setIfInBounds_toArray, List.set_cons_zero, List.set_cons_succ]
    refine stA 22 (fun K hK => ?_)
    go_simp
    refine hK.out _ _ ?_ (fun hbr22 => ?_)
    · go_keep
    clear hK K hbr21
    try simp only [Act.put, List.setIfInBounds_toArray, List.set_cons_zero, List.set_cons_succ]
    refine wpAnyH_done (by kernel_rfl) ?_ _
    go_wp2
    refine bodyPost_ret (v := .tuple #[.agg #[.int .i64 now, .int .i64 mx, .slice A' r.2.length c'], .int .i64 r.1]) (by simp [results, Try.results69, go_sem, u0, u1, u2]) rfl ⟨_, rfl, ⟨_, rfl, ?_⟩, ?_⟩
    · exact ownsRow_mono (ownsRow_setCell_below (ownsRow_setCell_below (ownsRow_setCell_below hrow (by have := hb0.size; first | (simp; done) | (simp at *; omega)) _) (by first | (simp; done) | (simp; omega)) _) (by first | (simp; done) | (simp; omega)) _) (by have := hb0.size; simp; omega)
    · exact (((hb0.trans (hX.mono hb0.size)).setCell (by simp) _).setCell (by simp) _).setCell (by simp) _


  | true =>
    rw [hq] at hsome
    cases h1 : decide (-1 ≤ ver) with
    | false =>
      rw [show giveL now mx ls i who ver = doL (giveF who ver) now mx ls i false from by simp [giveL, hq, h1]]
      have hcon := hcon false
      generalize doL (giveF who ver) now mx ls i false = r at *
      go_enter Try.func69, Try.ntmps69
      go_wp2_with fail
      have hA0 : Blk ((w.alloc (.cells #[.int .i64 now, .int .i64 mx, .slice A ls.length c] 30)).alloc (.cells #[.int .i64 0, .int .i64 0, .slice none 0 0] 30)) w.heap.size 30 #[.int .i64 now, .int .i64 mx, .slice A ls.length c] := (Blk.new_ w _ _ _ rfl).alloc _
      have hA1 : Blk ((w.alloc (.cells #[.int .i64 now, .int .i64 mx, .slice A ls.length c] 30)).alloc (.cells #[.int .i64 0, .int .i64 0, .slice none 0 0] 30)) (w.heap.size + 1) 30 #[.int .i64 0, .int .i64 0, .slice none 0 0] := Blk.new_ _ _ _ _ (by simp)
      obtain ⟨w1, hw1⟩ : ∃ x, ((w.alloc (.cells #[.int .i64 now, .int .i64 mx, .slice A ls.length c] 30)).alloc (.cells #[.int .i64 0, .int .i64 0, .slice none 0 0] 30)) = x := ⟨_, rfl⟩
      rw [hw1] at hA0 hA1 hb0 ⊢
      clear hw1
      have s0 : w1.cell? ⟨w.heap.size, 0, none⟩ = some (.int .i64 now) := by rw [hA0.cell]; rfl
      have s1 : w1.cell? ⟨w.heap.size, 1, none⟩ = some (.int .i64 mx) := by rw [hA0.cell]; rfl
      have s2 : w1.cell? ⟨w.heap.size, 2, none⟩ = some (.slice A ls.length c) := by rw [hA0.cell]; rfl
      have sf0 : w1.frozen? ⟨w.heap.size, 0, none⟩ = false := hA0.free 0
      have sf1 : w1.frozen? ⟨w.heap.size, 1, none⟩ = false := hA0.free 1
      have sf2 : w1.frozen? ⟨w.heap.size, 2, none⟩ = false := hA0.free 2
      have t0 : w1.cell? ⟨w.heap.size + 1, 0, none⟩ = some (.int .i64 0) := by rw [hA1.cell]; rfl
      have t1 : w1.cell? ⟨w.heap.size + 1, 1, none⟩ = some (.int .i64 0) := by rw [hA1.cell]; rfl
      have t2 : w1.cell? ⟨w.heap.size + 1, 2, none⟩ = some (.slice none 0 0) := by rw [hA1.cell]; rfl
      have tf0 : w1.frozen? ⟨w.heap.size + 1, 0, none⟩ = false := hA1.free 0
      have tf1 : w1.frozen? ⟨w.heap.size + 1, 1, none⟩ = false := hA1.free 1
      have tf2 : w1.frozen? ⟨w.heap.size + 1, 2, none⟩ = false := hA1.free 2
      have l0 := hA0.lt
      have l1 := hA1.lt
      have BW := (Below.refl w1.heap.size w1).drew
      have BZ := hb0.trans (BW.mono hb0.size)
      have hcall := hcon _ BZ
      clear hcon
      refine wp_region_held_drew (S := fun w' => w'.cell? ⟨w.heap.size, 0, none⟩ = some (.int .i64 now) ∧ w'.cell? ⟨w.heap.size, 1, none⟩ = some (.int .i64 mx) ∧ w'.cell? ⟨w.heap.size, 2, none⟩ = some (.slice A ls.length c)) (by kernel_rfl) ?_ (fun hcr => ?_)
      · exact ⟨s0, s1, s2⟩
      refine tkA 0 ?_
      refine tkA 1 ?_
      refine tkA 2 ?_
      refine tkA 14 ?_
      refine tkA 15 ?_
      refine tkA 16 ?_
      refine tkA 17 ?_
      refine stA 3 (fun K hK => ?_)
      go_simp
      refine (hsome _).mono ?_
      rintro e w' ⟨rfl, rfl⟩
      try go_wp2_with fail
      refine hK.out _ _ ?_ (fun hcr3 => ?_)
      · exact ⟨s0, s1, s2⟩
      clear hK K hcr
      try simp only [Act.put, List.setIfInBounds_toArray, List.set_cons_zero, List.set_cons_succ]
      refine tkA 4 ?_
      refine tkA 5 ?_
      refine tkA 6 ?_
      refine tkA 7 ?_
      refine tkA 8 ?_
      refine skA 9 ?_
      refine skA 10 ?_
      refine skA 11 ?_
      refine skA 12 ?_
      refine tkA 13 ?_
      refine stA 18 (fun K hK => ?_)
      go_simp
      refine hcall.mono ?_
      rintro e w' ⟨v', rfl, ⟨sv, rfl, hrow⟩, hb'⟩
      have hX := BW.trans (hb'.mono BW.size)
      obtain ⟨A', c', rfl, _, _⟩ := (Sl.of_own hrow).form
      have u0 := (hX.cell (p := ⟨w.heap.size + 1, 0, none⟩) l1).trans t0
      have u1 := (hX.cell (p := ⟨w.heap.size + 1, 1, none⟩) l1).trans t1
      have u2 := (hX.cell (p := ⟨w.heap.size + 1, 2, none⟩) l1).trans t2
      have uf0 := (hX.frozen (p := ⟨w.heap.size + 1, 0, none⟩) l1).trans tf0
      have uf1 := (hX.frozen (p := ⟨w.heap.size + 1, 1, none⟩) l1).trans tf1
      have uf2 := (hX.frozen (p := ⟨w.heap.size + 1, 2, none⟩) l1).trans tf2
      try go_wp2_with fail
      refine hK.out _ _ ?_ (fun hcr18 => ?_)
      · exact ⟨(hX.cell (p := ⟨w.heap.size, 0, none⟩) l0).trans s0, (hX.cell (p := ⟨w.heap.size, 1, none⟩) l0).trans s1, (hX.cell (p := ⟨w.heap.size, 2, none⟩) l0).trans s2⟩
      clear hK K hcr3
      try simp only [Act.put, List.setIfInBounds_toArray, List.set_cons_zero, List.set_cons_succ]
      refine tkA 19 ?_
      refine tkA 20 ?_
      refine stA 21 (fun K hK => ?_)
      go_simp
      refine hK.out _ _ ?_ (fun hcr21 => ?_)
      · go_keep
      clear hK K hcr18
      try simp only [Act.put, List.setIfInBounds_toArray, List.set_cons_zero, List.set_cons_succ]
      refine stA 22 (fun K hK => ?_)
      go_simp
      refine hK.out _ _ ?_ (fun hcr22 => ?_)
      · go_keep
      clear hK K hcr21
      try simp only [Act.put, List.setIfInBounds_toArray, List.set_cons_zero, List.set_cons_succ]
      refine wpAnyH_done (by kernel_rfl) ?_ _
      go_wp2
      refine bodyPost_ret (v := .tuple #[.agg #[.int .i64 now, .int .i64 mx, .slice A' r.2.length c'], .int .i64 r.1]) (by simp [results, Try.results69, go_sem, u0, u1, u2]) rfl ⟨_, rfl, ⟨_, rfl, ?_⟩, ?_⟩
      · exact ownsRow_mono (ownsRow_setCell_below (ownsRow_setCell_below (ownsRow_setCell_below hrow (by have := hb0.size; first | (simp; done) | (simp at *; omega)) _) (by first | (simp; done) | (simp; omega)) _) (by first | (simp; done) | (simp; omega)) _) (by have := hb0.size; simp; omega)
      · exact (((hb0.trans (hX.mono hb0.size)).setCell (by simp) _).setCell (by simp) _).setCell (by simp) _
  
  
    | true =>
      rw [show giveL now mx ls i who ver = doL (giveF who ver) now mx ls i (decide (ver ≤ now)) from by simp [giveL, hq, h1]]
      have hcon := hcon (decide (ver ≤ now))
      generalize doL (giveF who ver) now mx ls i (decide (ver ≤ now)) = r at *
      go_enter Try.func69, Try.ntmps69
      go_wp2_with fail
      have hA0 : Blk ((w.alloc (.cells #[.int .i64 now, .int .i64 mx, .slice A ls.length c] 30)).alloc (.cells #[.int .i64 0, .int .i64 0, .slice none 0 0] 30)) w.heap.size 30 #[.int .i64 now, .int .i64 mx, .slice A ls.length c] := (Blk.new_ w _ _ _ rfl).alloc _
      have hA1 : Blk ((w.alloc (.cells #[.int .i64 now, .int .i64 mx, .slice A ls.length c] 30)).alloc (.cells #[.int .i64 0, .int .i64 0, .slice none 0 0] 30)) (w.heap.size + 1) 30 #[.int .i64 0, .int .i64 0, .slice none 0 0] := Blk.new_ _ _ _ _ (by simp)
      obtain ⟨w1, hw1⟩ : ∃ x, ((w.alloc (.cells #[.int .i64 now, .int .i64 mx, .slice A ls.length c] 30)).alloc (.cells #[.int .i64 0, .int .i64 0, .slice none 0 0] 30)) = x := ⟨_, rfl⟩
      rw [hw1] at hA0 hA1 hb0 ⊢
      clear hw1
      have s0 : w1.cell? ⟨w.heap.size, 0, none⟩ = some (.int .i64 now) := by rw [hA0.cell]; rfl
      have s1 : w1.cell? ⟨w.heap.size, 1, none⟩ = some (.int .i64 mx) := by rw [hA0.cell]; rfl
      have s2 : w1.cell? ⟨w.heap.size, 2, none⟩ = some (.slice A ls.length c) := by rw [hA0.cell]; rfl
      have sf0 : w1.frozen? ⟨w.heap.size, 0, none⟩ = false := hA0.free 0
      have sf1 : w1.frozen? ⟨w.heap.size, 1, none⟩ = false := hA0.free 1
      have sf2 : w1.frozen? ⟨w.heap.size, 2, none⟩ = false := hA0.free 2
      have t0 : w1.cell? ⟨w.heap.size + 1, 0, none⟩ = some (.int .i64 0) := by rw [hA1.cell]; rfl
      have t1 : w1.cell? ⟨w.heap.size + 1, 1, none⟩ = some (.int .i64 0) := by rw [hA1.cell]; rfl
      have t2 : w1.cell? ⟨w.heap.size + 1, 2, none⟩ = some (.slice none 0 0) := by rw [hA1.cell]; rfl
      have tf0 : w1.frozen? ⟨w.heap.size + 1, 0, none⟩ = false := hA1.free 0
      have tf1 : w1.frozen? ⟨w.heap.size + 1, 1, none⟩ = false := hA1.free 1
      have tf2 : w1.frozen? ⟨w.heap.size + 1, 2, none⟩ = false := hA1.free 2
      have l0 := hA0.lt
      have l1 := hA1.lt
      have BW := (Below.refl w1.heap.size w1).drew
      have BZ := hb0.trans (BW.mono hb0.size)
      have hcall := hcon _ BZ
      clear hcon
      refine wp_region_held_drew (S := fun w' => w'.cell? ⟨w.heap.size, 0, none⟩ = some (.int .i64 now) ∧ w'.cell? ⟨w.heap.size, 1, none⟩ = some (.int .i64 mx) ∧ w'.cell? ⟨w.heap.size, 2, none⟩ = some (.slice A ls.length c)) (by kernel_rfl) ?_ (fun hdr => ?_)
      · exact ⟨s0, s1, s2⟩
      refine tkA 0 ?_
      refine tkA 1 ?_
      refine tkA 2 ?_
      refine tkA 14 ?_
      refine tkA 15 ?_
      refine tkA 16 ?_
      refine tkA 17 ?_
      refine stA 3 (fun K hK => ?_)
      go_simp
      refine (hsome _).mono ?_
      rintro e w' ⟨rfl, rfl⟩
      try go_wp2_with fail
      refine hK.out _ _ ?_ (fun hdr3 => ?_)
      · exact ⟨s0, s1, s2⟩
      clear hK K hdr
      try simp only [Act.put, List.setIfInBounds_toArray, List.set_cons_zero, List.set_cons_succ]
      refine tkA 4 ?_
      refine tkA 5 ?_
      refine tkA 6 ?_
      refine tkA 7 ?_
      refine tkA 8 ?_
      refine tkA 9 ?_
      refine tkA 10 ?_
      refine tkA 11 ?_
      refine tkA 12 ?_
      refine tkA 13 ?_
      refine stA 18 (fun K hK => ?_)
      go_simp
      refine hcall.mono ?_
      rintro e w' ⟨v', rfl, ⟨sv, rfl, hrow⟩, hb'⟩
      have hX := BW.trans (hb'.mono BW.size)
      obtain ⟨A', c', rfl, _, _⟩ := (Sl.of_own hrow).form
      have u0 := (hX.cell (p := ⟨w.heap.size + 1, 0, none⟩) l1).trans t0
      have u1 := (hX.cell (p := ⟨w.heap.size + 1, 1, none⟩) l1).trans t1
      have u2 := (hX.cell (p := ⟨w.heap.size + 1, 2, none⟩) l1).trans t2
      have uf0 := (hX.frozen (p := ⟨w.heap.size + 1, 0, none⟩) l1).trans tf0
      have uf1 := (hX.frozen (p := ⟨w.heap.size + 1, 1, none⟩) l1).trans tf1
      have uf2 := (hX.frozen (p := ⟨w.heap.size + 1, 2, none⟩) l1).trans tf2
      try go_wp2_with fail
      refine hK.out _ _ ?_ (fun hdr18 => ?_)
      · exact ⟨(hX.cell (p := ⟨w.heap.size, 0, none⟩) l0).trans s0, (hX.cell (p := ⟨w.heap.size, 1, none⟩) l0).trans s1, (hX.cell (p := ⟨w.heap.size, 2, none⟩) l0).trans s2⟩
      clear hK K hdr3
      try simp only [Act.put, List.setIfInBounds_toArray, List.set_cons_zero, List.set_cons_succ]
      refine tkA 19 ?_
      refine tkA 20 ?_
      refine stA 21 (fun K hK => ?_)
      go_simp
      refine hK.out _ _ ?_ (fun hdr21 => ?_)
      · go_keep
      clear hK K hdr18
      try simp only [Act.put, List.setIfInBounds_toArray, List.set_cons_zero, List.set_cons_succ]
      refine stA 22 (fun K hK => ?_)
      go_simp
      refine hK.out _ _ ?_ (fun hdr22 => ?_)
      · go_keep
      clear hK K hdr21
      try simp only [Act.put, List.setIfInBounds_toArray, List.set_cons_zero, List.set_cons_succ]
      refine wpAnyH_done (by kernel_rfl) ?_ _
      go_wp2
      refine bodyPost_ret (v := .tuple #[.agg #[.int .i64 now, .int .i64 mx, .slice A' r.2.length c'], .int .i64 r.1]) (by simp [results, Try.results69, go_sem, u0, u1, u2]) rfl ⟨_, rfl, ⟨_, rfl, ?_⟩, ?_⟩
      · exact ownsRow_mono (ownsRow_setCell_below (ownsRow_setCell_below (ownsRow_setCell_below hrow (by have := hb0.size; first | (simp; done) | (simp at *; omega)) _) (by first | (simp; done) | (simp; omega)) _) (by first | (simp; done) | (simp; omega)) _) (by have := hb0.size; simp; omega)
      · exact (((hb0.trans (hX.mono hb0.size)).setCell (by simp) _).setCell (by simp) _).setCell (by simp) _
  
  

end Go.Proofs.Ytngimbfojccikaa
