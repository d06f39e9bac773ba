/- stm.Same: printed by st_same4.py. -/
import Derived.Test.YtngimbfojccikaaStSame3m
namespace Go.Proofs.Ytngimbfojccikaa
set_option linter.unusedSimpArgs false
open Go Go.RowKit
set_option linter.unusedVariables false

/-- Are two states the same? -/
def memEq (m n : Mm) : Bool := eqL intEq m.W n.W && (sameL m.now m.mx m.L n.now n.mx n.L && (eqR txEq m.T n.T && (eqR rxEq m.H n.H && (m.time == n.time))))
/-- Where the four rows of a state lie. -/
structure Mv where
  A0 : Option Addr
  c0 : Nat
  A3 : Option Addr
  c3 : Nat
  A4 : Option Addr
  c4 : Nat
  A5 : Option Addr
  c5 : Nat
def Mv.cells (p : Mv) (m : Mm) : List Value := [.slice p.A0 m.W.length p.c0, .int .i64 m.now, .int .i64 m.mx, .slice p.A3 m.L.length p.c3, .slice p.A4 m.T.length p.c4, .slice p.A5 m.H.length p.c5, .int .i64 m.time]
/-- A state read, its rows anywhere. -/
structure MemG (w : World) (p : Mv) (m : Mm) : Prop where
  W : Sl w 1 (.slice p.A0 m.W.length p.c0) m.W.length (m.W.flatMap encI)
  L : Sl w 2 (.slice p.A3 m.L.length p.c3) m.L.length (m.L.flatMap encL)
  T : Sl w 11 (.slice p.A4 m.T.length p.c4) m.T.length (m.T.flatMap encTx)
  H : Sl w 10 (.slice p.A5 m.H.length p.c5) m.H.length (m.H.flatMap encRx)
  ts : ∀ t ∈ m.T, Sl w 2 (.slice t.rA t.R.length t.rc) t.R.length (t.R.flatMap encPr) ∧ Sl w 2 (.slice t.wA t.W.length t.wc) t.W.length (t.W.flatMap encPr)
  hs : ∀ x ∈ m.H, RxOk w x
theorem MemG.below {w w' : World} {p : Mv} {m : Mm} (h : MemG w p m) (hb : Below w.heap.size w w') : MemG w' p m :=
  ⟨h.W.below hb, h.L.below hb, h.T.below hb, h.H.below hb, fun t ht => ⟨(h.ts t ht).1.below hb, (h.ts t ht).2.below hb⟩, fun x hx => (h.hs x hx).below hb⟩
def Ad.mv (a : Ad) : Mv := ⟨some ⟨a.gW, 0, none⟩, a.cW, a.lA, a.lc, some ⟨a.gT, 0, none⟩, a.cT, a.hA, a.hc⟩
theorem MemV.gen {w : World} {a : Ad} {m : Mm} (h : MemV w a m) : MemG w a.mv m := ⟨h.W, h.L, h.T, h.H, h.ts, h.hs⟩
theorem Ad.mv_cells (a : Ad) (m : Mm) : a.mv.cells m = memCells a m := rfl

set_option maxRecDepth 100000 in
set_option maxHeartbeats 16000000 in
theorem SameG_any (p q : Mv) (m n : Mm) (w : World) (hm : MemG w p m) (hn : MemG w q n) :
    Calls Try.prog 21 #[.agg (p.cells m).toArray, .agg (q.cells n).toArray] w fun e w' => e = .returned (.bool (memEq m n)) ∧ Below w.heap.size w w' := by
  obtain ⟨A0, c0, A3, c3, A4, c4, A5, c5⟩ := p
  obtain ⟨B0, d0, B3, d3, B4, d4, B5, d5⟩ := q
  obtain ⟨p, hp⟩ : ∃ p : Mv, p = ⟨A0, c0, A3, c3, A4, c4, A5, c5⟩ := ⟨_, rfl⟩
  obtain ⟨q, hq⟩ : ∃ p : Mv, p = ⟨B0, d0, B3, d3, B4, d4, B5, d5⟩ := ⟨_, rfl⟩
  rw [← hp, ← hq]
  rw [← hp] at hm
  rw [← hq] at hn
  have kX := Blk.new w 34 (p.cells m).toArray
  have bX : Below w.heap.size w (w.alloc (.cells (p.cells m).toArray 34)) := (Below.refl _ w).alloc (Nat.le_refl _) _
  have kY := Blk.new (w.alloc (.cells (p.cells m).toArray 34)) 34 (q.cells n).toArray
  have kX := kX.keep (show Below _ _ ((w.alloc (.cells (p.cells m).toArray 34)).alloc (.cells (q.cells n).toArray 34)) from (Below.refl _ _).alloc (Nat.le_refl _) _)
  have bY : Below w.heap.size w ((w.alloc (.cells (p.cells m).toArray 34)).alloc (.cells (q.cells n).toArray 34)) := bX.alloc (by simp) _
  have hb0 : (w.alloc (.cells (p.cells m).toArray 34)).heap.size = w.heap.size + 1 := by simp
  rw [hb0] at kY
  obtain ⟨w2, hw2⟩ : ∃ z, (w.alloc (.cells (p.cells m).toArray 34)).alloc (.cells (q.cells n).toArray 34) = z := ⟨_, rfl⟩
  rw [hw2] at kX kY bY
  subst hp hq
  have HW := Lib.hid hw2
  have HB := Lib.hid bY
  have HC := Lib.hid (fun W (hb : Below w2.heap.size w2 W) => (show W.cell? ⟨w.heap.size, 0, none⟩ = some (.slice A0 m.W.length c0) ∧ W.cell? ⟨w.heap.size, 1, none⟩ = some (.int .i64 m.now) ∧ W.cell? ⟨w.heap.size, 2, none⟩ = some (.int .i64 m.mx) ∧ W.cell? ⟨w.heap.size, 3, none⟩ = some (.slice A3 m.L.length c3) ∧ W.cell? ⟨w.heap.size, 4, none⟩ = some (.slice A4 m.T.length c4) ∧ W.cell? ⟨w.heap.size, 5, none⟩ = some (.slice A5 m.H.length c5) ∧ W.cell? ⟨w.heap.size, 6, none⟩ = some (.int .i64 m.time) ∧ W.cell? ⟨w.heap.size + 1, 0, none⟩ = some (.slice B0 n.W.length d0) ∧ W.cell? ⟨w.heap.size + 1, 1, none⟩ = some (.int .i64 n.now) ∧ W.cell? ⟨w.heap.size + 1, 2, none⟩ = some (.int .i64 n.mx) ∧ W.cell? ⟨w.heap.size + 1, 3, none⟩ = some (.slice B3 n.L.length d3) ∧ W.cell? ⟨w.heap.size + 1, 4, none⟩ = some (.slice B4 n.T.length d4) ∧ W.cell? ⟨w.heap.size + 1, 5, none⟩ = some (.slice B5 n.H.length d5) ∧ W.cell? ⟨w.heap.size + 1, 6, none⟩ = some (.int .i64 n.time) from ⟨(by rw [(kX.keep hb).cell]; rfl), (by rw [(kX.keep hb).cell]; rfl), (by rw [(kX.keep hb).cell]; rfl), (by rw [(kX.keep hb).cell]; rfl), (by rw [(kX.keep hb).cell]; rfl), (by rw [(kX.keep hb).cell]; rfl), (by rw [(kX.keep hb).cell]; rfl), (by rw [(kY.keep hb).cell]; rfl), (by rw [(kY.keep hb).cell]; rfl), (by rw [(kY.keep hb).cell]; rfl), (by rw [(kY.keep hb).cell]; rfl), (by rw [(kY.keep hb).cell]; rfl), (by rw [(kY.keep hb).cell]; rfl), (by rw [(kY.keep hb).cell]; rfl)⟩))
  have E0 := Lib.hid (fun W (hb : Below w2.heap.size w2 W) => equal_int _ _ m.W n.W W ((hm.W.below HB.out).below hb) ((hn.W.below HB.out).below hb))
  have E1 := Lib.hid (fun W (hb : Below w2.heap.size w2 W) => LSame_any _ _ m.now m.mx n.now n.mx m.L n.L W ⟨_, rfl, (hm.L.below HB.out).below hb⟩ ⟨_, rfl, (hn.L.below HB.out).below hb⟩)
  have E2 := Lib.hid (fun W (hb : Below w2.heap.size w2 W) => eqf_thread _ _ m.T n.T W ((hm.T.below HB.out).below hb) ((hn.T.below HB.out).below hb) (fun t ht => ⟨((hm.ts t ht).1.below HB.out).below hb, ((hm.ts t ht).2.below HB.out).below hb⟩) (fun t ht => ⟨((hn.ts t ht).1.below HB.out).below hb, ((hn.ts t ht).2.below HB.out).below hb⟩))
  have E3 := Lib.hid (fun W (hb : Below w2.heap.size w2 W) => eqf_rec _ _ m.H n.H W ((hm.H.below HB.out).below hb) ((hn.H.below HB.out).below hb) (fun t ht => ⟨((hm.hs t ht).1.below HB.out).below hb, ((hm.hs t ht).2.below HB.out).below hb⟩) (fun t ht => ⟨((hn.hs t ht).1.below HB.out).below hb, ((hn.hs t ht).2.below HB.out).below hb⟩))
  have HG := Lib.hid (show ∀ c, Hid ((eqL intEq m.W n.W && (sameL m.now m.mx m.L n.now n.mx n.L && (eqR txEq m.T n.T && (eqR rxEq m.H n.H && ((m.time == n.time)))))) = c) → memEq m n = c from fun c h => h.out)
  clear kX kY hw2 bY bX hm hn hb0
  simp only [Mv.cells] at HW ⊢
  cases h0 : eqL intEq m.W n.W with
  | false =>
    rw [HG.out false (by show _ = _; simp only [h0, Bool.true_and, Bool.and_true, Bool.false_and, Bool.and_self])]
    clear HG
    go_enter Try.func21, Try.ntmps21
    go_wp2_with fail
    rw [HW.out]
    have hb0 := Below.refl w2.heap.size w2
    obtain ⟨x0, x1, x2, x3, x4, x5, x6, y0, y1, y2, y3, y4, y5, y6⟩ := HC.out _ hb0
    go_wp2_with fail
    have c0 := E0.out _ hb0
    rw [h0] at c0
    refine c0.mono ?_
    rintro e w3 ⟨rfl, hr0⟩
    have hb1 := hb0.trans (hr0.mono hb0.size)
    clear x0 x1 x2 x3 x4 x5 x6 y0 y1 y2 y3 y4 y5 y6
    obtain ⟨x0, x1, x2, x3, x4, x5, x6, y0, y1, y2, y3, y4, y5, y6⟩ := HC.out _ hb1
    go_wp2_with fail
    go_ret
    exact ⟨rfl, HB.out.trans (hb1.mono HB.out.size)⟩
  | true =>
    cases h1 : sameL m.now m.mx m.L n.now n.mx n.L with
    | false =>
      rw [HG.out false (by show _ = _; simp only [h0, h1, Bool.true_and, Bool.and_true, Bool.false_and, Bool.and_self])]
      clear HG
      go_enter Try.func21, Try.ntmps21
      go_wp2_with fail
      rw [HW.out]
      have hb0 := Below.refl w2.heap.size w2
      obtain ⟨x0, x1, x2, x3, x4, x5, x6, y0, y1, y2, y3, y4, y5, y6⟩ := HC.out _ hb0
      go_wp2_with fail
      have c0 := E0.out _ hb0
      rw [h0] at c0
      refine c0.mono ?_
      rintro e w3 ⟨rfl, hr0⟩
      have hb1 := hb0.trans (hr0.mono hb0.size)
      clear x0 x1 x2 x3 x4 x5 x6 y0 y1 y2 y3 y4 y5 y6
      obtain ⟨x0, x1, x2, x3, x4, x5, x6, y0, y1, y2, y3, y4, y5, y6⟩ := HC.out _ hb1
      go_wp2_with fail
      have c1 := E1.out _ hb1
      rw [h1] at c1
      refine c1.mono ?_
      rintro e w4 ⟨rfl, hr1⟩
      have hb2 := hb1.trans (hr1.mono hb1.size)
      clear x0 x1 x2 x3 x4 x5 x6 y0 y1 y2 y3 y4 y5 y6
      obtain ⟨x0, x1, x2, x3, x4, x5, x6, y0, y1, y2, y3, y4, y5, y6⟩ := HC.out _ hb2
      go_wp2_with fail
      go_ret
      exact ⟨rfl, HB.out.trans (hb2.mono HB.out.size)⟩
    | true =>
      cases h2 : eqR txEq m.T n.T with
      | false =>
        rw [HG.out false (by show _ = _; simp only [h0, h1, h2, Bool.true_and, Bool.and_true, Bool.false_and, Bool.and_self])]
        clear HG
        go_enter Try.func21, Try.ntmps21
        go_wp2_with fail
        rw [HW.out]
        have hb0 := Below.refl w2.heap.size w2
        obtain ⟨x0, x1, x2, x3, x4, x5, x6, y0, y1, y2, y3, y4, y5, y6⟩ := HC.out _ hb0
        go_wp2_with fail
        have c0 := E0.out _ hb0
        rw [h0] at c0
        refine c0.mono ?_
        rintro e w3 ⟨rfl, hr0⟩
        have hb1 := hb0.trans (hr0.mono hb0.size)
        clear x0 x1 x2 x3 x4 x5 x6 y0 y1 y2 y3 y4 y5 y6
        obtain ⟨x0, x1, x2, x3, x4, x5, x6, y0, y1, y2, y3, y4, y5, y6⟩ := HC.out _ hb1
        go_wp2_with fail
        have c1 := E1.out _ hb1
        rw [h1] at c1
        refine c1.mono ?_
        rintro e w4 ⟨rfl, hr1⟩
        have hb2 := hb1.trans (hr1.mono hb1.size)
        clear x0 x1 x2 x3 x4 x5 x6 y0 y1 y2 y3 y4 y5 y6
        obtain ⟨x0, x1, x2, x3, x4, x5, x6, y0, y1, y2, y3, y4, y5, y6⟩ := HC.out _ hb2
        go_wp2_with fail
        have c2 := E2.out _ hb2
        rw [h2] at c2
        refine c2.mono ?_
        rintro e w5 ⟨rfl, hr2⟩
        have hb3 := hb2.trans (hr2.mono hb2.size)
        clear x0 x1 x2 x3 x4 x5 x6 y0 y1 y2 y3 y4 y5 y6
        obtain ⟨x0, x1, x2, x3, x4, x5, x6, y0, y1, y2, y3, y4, y5, y6⟩ := HC.out _ hb3
        go_wp2_with fail
        go_ret
        exact ⟨rfl, HB.out.trans (hb3.mono HB.out.size)⟩
      | true =>
        cases h3 : eqR rxEq m.H n.H with
        | false =>
          rw [HG.out false (by show _ = _; simp only [h0, h1, h2, h3, Bool.true_and, Bool.and_true, Bool.false_and, Bool.and_self])]
          clear HG
          go_enter Try.func21, Try.ntmps21
          go_wp2_with fail
          rw [HW.out]
          have hb0 := Below.refl w2.heap.size w2
          obtain ⟨x0, x1, x2, x3, x4, x5, x6, y0, y1, y2, y3, y4, y5, y6⟩ := HC.out _ hb0
          go_wp2_with fail
          have c0 := E0.out _ hb0
          rw [h0] at c0
          refine c0.mono ?_
          rintro e w3 ⟨rfl, hr0⟩
          have hb1 := hb0.trans (hr0.mono hb0.size)
          clear x0 x1 x2 x3 x4 x5 x6 y0 y1 y2 y3 y4 y5 y6
          obtain ⟨x0, x1, x2, x3, x4, x5, x6, y0, y1, y2, y3, y4, y5, y6⟩ := HC.out _ hb1
          go_wp2_with fail
          have c1 := E1.out _ hb1
          rw [h1] at c1
          refine c1.mono ?_
          rintro e w4 ⟨rfl, hr1⟩
          have hb2 := hb1.trans (hr1.mono hb1.size)
          clear x0 x1 x2 x3 x4 x5 x6 y0 y1 y2 y3 y4 y5 y6
          obtain ⟨x0, x1, x2, x3, x4, x5, x6, y0, y1, y2, y3, y4, y5, y6⟩ := HC.out _ hb2
          go_wp2_with fail
          have c2 := E2.out _ hb2
          rw [h2] at c2
          refine c2.mono ?_
          rintro e w5 ⟨rfl, hr2⟩
          have hb3 := hb2.trans (hr2.mono hb2.size)
          clear x0 x1 x2 x3 x4 x5 x6 y0 y1 y2 y3 y4 y5 y6
          obtain ⟨x0, x1, x2, x3, x4, x5, x6, y0, y1, y2, y3, y4, y5, y6⟩ := HC.out _ hb3
          go_wp2_with fail
          have c3 := E3.out _ hb3
          rw [h3] at c3
          refine c3.mono ?_
          rintro e w6 ⟨rfl, hr3⟩
          have hb4 := hb3.trans (hr3.mono hb3.size)
          clear x0 x1 x2 x3 x4 x5 x6 y0 y1 y2 y3 y4 y5 y6
          obtain ⟨x0, x1, x2, x3, x4, x5, x6, y0, y1, y2, y3, y4, y5, y6⟩ := HC.out _ hb4
          go_wp2_with fail
          go_ret
          exact ⟨rfl, HB.out.trans (hb4.mono HB.out.size)⟩
        | true =>
          cases h4 : (m.time == n.time) with
          | false =>
            rw [HG.out false (by show _ = _; simp only [h0, h1, h2, h3, h4, Bool.true_and, Bool.and_true, Bool.false_and, Bool.and_self])]
            clear HG
            go_enter Try.func21, Try.ntmps21
            go_wp2_with fail
            rw [HW.out]
            have hb0 := Below.refl w2.heap.size w2
            obtain ⟨x0, x1, x2, x3, x4, x5, x6, y0, y1, y2, y3, y4, y5, y6⟩ := HC.out _ hb0
            go_wp2_with fail
            have c0 := E0.out _ hb0
            rw [h0] at c0
            refine c0.mono ?_
            rintro e w3 ⟨rfl, hr0⟩
            have hb1 := hb0.trans (hr0.mono hb0.size)
            clear x0 x1 x2 x3 x4 x5 x6 y0 y1 y2 y3 y4 y5 y6
            obtain ⟨x0, x1, x2, x3, x4, x5, x6, y0, y1, y2, y3, y4, y5, y6⟩ := HC.out _ hb1
            go_wp2_with fail
            have c1 := E1.out _ hb1
            rw [h1] at c1
            refine c1.mono ?_
            rintro e w4 ⟨rfl, hr1⟩
            have hb2 := hb1.trans (hr1.mono hb1.size)
            clear x0 x1 x2 x3 x4 x5 x6 y0 y1 y2 y3 y4 y5 y6
            obtain ⟨x0, x1, x2, x3, x4, x5, x6, y0, y1, y2, y3, y4, y5, y6⟩ := HC.out _ hb2
            go_wp2_with fail
            have c2 := E2.out _ hb2
            rw [h2] at c2
            refine c2.mono ?_
            rintro e w5 ⟨rfl, hr2⟩
            have hb3 := hb2.trans (hr2.mono hb2.size)
            clear x0 x1 x2 x3 x4 x5 x6 y0 y1 y2 y3 y4 y5 y6
            obtain ⟨x0, x1, x2, x3, x4, x5, x6, y0, y1, y2, y3, y4, y5, y6⟩ := HC.out _ hb3
            go_wp2_with fail
            have c3 := E3.out _ hb3
            rw [h3] at c3
            refine c3.mono ?_
            rintro e w6 ⟨rfl, hr3⟩
            have hb4 := hb3.trans (hr3.mono hb3.size)
            clear x0 x1 x2 x3 x4 x5 x6 y0 y1 y2 y3 y4 y5 y6
            obtain ⟨x0, x1, x2, x3, x4, x5, x6, y0, y1, y2, y3, y4, y5, y6⟩ := HC.out _ hb4
            go_wp2_with fail
            go_ret
            exact ⟨rfl, HB.out.trans (hb4.mono HB.out.size)⟩
          | true =>
            rw [HG.out true (by show _ = _; simp only [h0, h1, h2, h3, h4, Bool.true_and, Bool.and_true, Bool.false_and, Bool.and_self])]
            clear HG
            go_enter Try.func21, Try.ntmps21
            go_wp2_with fail
            rw [HW.out]
            have hb0 := Below.refl w2.heap.size w2
            obtain ⟨x0, x1, x2, x3, x4, x5, x6, y0, y1, y2, y3, y4, y5, y6⟩ := HC.out _ hb0
            go_wp2_with fail
            have c0 := E0.out _ hb0
            rw [h0] at c0
            refine c0.mono ?_
            rintro e w3 ⟨rfl, hr0⟩
            have hb1 := hb0.trans (hr0.mono hb0.size)
            clear x0 x1 x2 x3 x4 x5 x6 y0 y1 y2 y3 y4 y5 y6
            obtain ⟨x0, x1, x2, x3, x4, x5, x6, y0, y1, y2, y3, y4, y5, y6⟩ := HC.out _ hb1
            go_wp2_with fail
            have c1 := E1.out _ hb1
            rw [h1] at c1
            refine c1.mono ?_
            rintro e w4 ⟨rfl, hr1⟩
            have hb2 := hb1.trans (hr1.mono hb1.size)
            clear x0 x1 x2 x3 x4 x5 x6 y0 y1 y2 y3 y4 y5 y6
            obtain ⟨x0, x1, x2, x3, x4, x5, x6, y0, y1, y2, y3, y4, y5, y6⟩ := HC.out _ hb2
            go_wp2_with fail
            have c2 := E2.out _ hb2
            rw [h2] at c2
            refine c2.mono ?_
            rintro e w5 ⟨rfl, hr2⟩
            have hb3 := hb2.trans (hr2.mono hb2.size)
            clear x0 x1 x2 x3 x4 x5 x6 y0 y1 y2 y3 y4 y5 y6
            obtain ⟨x0, x1, x2, x3, x4, x5, x6, y0, y1, y2, y3, y4, y5, y6⟩ := HC.out _ hb3
            go_wp2_with fail
            have c3 := E3.out _ hb3
            rw [h3] at c3
            refine c3.mono ?_
            rintro e w6 ⟨rfl, hr3⟩
            have hb4 := hb3.trans (hr3.mono hb3.size)
            clear x0 x1 x2 x3 x4 x5 x6 y0 y1 y2 y3 y4 y5 y6
            obtain ⟨x0, x1, x2, x3, x4, x5, x6, y0, y1, y2, y3, y4, y5, y6⟩ := HC.out _ hb4
            go_wp2_with fail
            go_ret
            exact ⟨rfl, HB.out.trans (hb4.mono HB.out.size)⟩
theorem Same_any (a b : Ad) (m n : Mm) (w : World) (hm : MemV w a m) (hn : MemV w b n) :
    Calls Try.prog 21 #[.agg (memCells a m).toArray, .agg (memCells b n).toArray] w fun e w' => e = .returned (.bool (memEq m n)) ∧ Below w.heap.size w w' := SameG_any a.mv b.mv m n w hm.gen hn.gen
end Go.Proofs.Ytngimbfojccikaa
