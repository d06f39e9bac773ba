/- foliateref19: thread, rec: printed by rs_same.py x. -/
import Derived.Test.YtngimbfojccikaaStmTellsP
namespace Go.Proofs.Ytngimbfojccikaa
set_option linter.unusedSimpArgs false
open Go Go.RowKit
set_option linter.unusedVariables false
set_option maxRecDepth 100000

set_option maxHeartbeats 16000000 in
theorem rthread_any (x y : Tx) (w : World) (hx : Sl w 2 (.slice x.rA x.R.length x.rc) x.R.length (x.R.flatMap encPr) ∧ Sl w 2 (.slice x.wA x.W.length x.wc) x.W.length (x.W.flatMap encPr)) (hy : Sl w 2 (.slice y.rA y.R.length y.rc) y.R.length (y.R.flatMap encPr) ∧ Sl w 2 (.slice y.wA y.W.length y.wc) y.W.length (y.W.flatMap encPr)) :
    Calls Try.prog 28 #[.agg (encTx x).toArray, .agg (encTx y).toArray] w fun e w' => e = .returned (.bool (txEq x y)) ∧ Below w.heap.size w w' := by
  have kX := Blk.new w 46 (encTx x).toArray
  have bX : Below w.heap.size w (w.alloc (.cells (encTx x).toArray 46)) := (Below.refl _ w).alloc (Nat.le_refl _) _
  have kY := Blk.new (w.alloc (.cells (encTx x).toArray 46)) 46 (encTx y).toArray
  have kX := kX.keep (show Below _ _ ((w.alloc (.cells (encTx x).toArray 46)).alloc (.cells (encTx y).toArray 46)) from (Below.refl _ _).alloc (Nat.le_refl _) _)
  have bY : Below w.heap.size w ((w.alloc (.cells (encTx x).toArray 46)).alloc (.cells (encTx y).toArray 46)) := bX.alloc (by simp) _
  have hb0 : (w.alloc (.cells (encTx x).toArray 46)).heap.size = w.heap.size + 1 := by simp
  rw [hb0] at kY
  obtain ⟨w2, hw2⟩ : ∃ z, (w.alloc (.cells (encTx x).toArray 46)).alloc (.cells (encTx y).toArray 46) = z := ⟨_, rfl⟩
  rw [hw2] at kX kY bY
  have HW := Lib.hid hw2
  have HB := Lib.hid bY
  have HKX := Lib.hid kX
  have HKY := Lib.hid kY
  have Cx := Lib.hid (fun W (hb : Below w2.heap.size w2 W) => (show W.cell? ⟨w.heap.size, 0, none⟩ = some (.int .i64 x.st) ∧ W.cell? ⟨w.heap.size, 1, none⟩ = some (.int .i64 x.tx) ∧ W.cell? ⟨w.heap.size, 2, none⟩ = some (.int .i64 x.try_) ∧ W.cell? ⟨w.heap.size, 3, none⟩ = some (.int .i64 x.pc) ∧ W.cell? ⟨w.heap.size, 4, none⟩ = some (.int .i64 x.rv) ∧ W.cell? ⟨w.heap.size, 5, none⟩ = some (.int .i64 x.wv) ∧ W.cell? ⟨w.heap.size, 6, none⟩ = some (.int .i64 x.sum) ∧ W.cell? ⟨w.heap.size, 7, none⟩ = some (.slice x.rA x.R.length x.rc) ∧ W.cell? ⟨w.heap.size, 8, none⟩ = some (.slice x.wA x.W.length x.wc) ∧ W.cell? ⟨w.heap.size, 9, none⟩ = some (.int .i64 x.i) ∧ W.cell? ⟨w.heap.size, 10, none⟩ = some (.int .i64 x.fr) from ⟨by rw [(HKX.out.keep hb).cell]; rfl, by rw [(HKX.out.keep hb).cell]; rfl, by rw [(HKX.out.keep hb).cell]; rfl, by rw [(HKX.out.keep hb).cell]; rfl, by rw [(HKX.out.keep hb).cell]; rfl, by rw [(HKX.out.keep hb).cell]; rfl, by rw [(HKX.out.keep hb).cell]; rfl, by rw [(HKX.out.keep hb).cell]; rfl, by rw [(HKX.out.keep hb).cell]; rfl, by rw [(HKX.out.keep hb).cell]; rfl, by rw [(HKX.out.keep hb).cell]; rfl⟩))
  have Cy := Lib.hid (fun W (hb : Below w2.heap.size w2 W) => (show W.cell? ⟨w.heap.size + 1, 0, none⟩ = some (.int .i64 y.st) ∧ W.cell? ⟨w.heap.size + 1, 1, none⟩ = some (.int .i64 y.tx) ∧ W.cell? ⟨w.heap.size + 1, 2, none⟩ = some (.int .i64 y.try_) ∧ W.cell? ⟨w.heap.size + 1, 3, none⟩ = some (.int .i64 y.pc) ∧ W.cell? ⟨w.heap.size + 1, 4, none⟩ = some (.int .i64 y.rv) ∧ W.cell? ⟨w.heap.size + 1, 5, none⟩ = some (.int .i64 y.wv) ∧ W.cell? ⟨w.heap.size + 1, 6, none⟩ = some (.int .i64 y.sum) ∧ W.cell? ⟨w.heap.size + 1, 7, none⟩ = some (.slice y.rA y.R.length y.rc) ∧ W.cell? ⟨w.heap.size + 1, 8, none⟩ = some (.slice y.wA y.W.length y.wc) ∧ W.cell? ⟨w.heap.size + 1, 9, none⟩ = some (.int .i64 y.i) ∧ W.cell? ⟨w.heap.size + 1, 10, none⟩ = some (.int .i64 y.fr) from ⟨by rw [(HKY.out.keep hb).cell]; rfl, by rw [(HKY.out.keep hb).cell]; rfl, by rw [(HKY.out.keep hb).cell]; rfl, by rw [(HKY.out.keep hb).cell]; rfl, by rw [(HKY.out.keep hb).cell]; rfl, by rw [(HKY.out.keep hb).cell]; rfl, by rw [(HKY.out.keep hb).cell]; rfl, by rw [(HKY.out.keep hb).cell]; rfl, by rw [(HKY.out.keep hb).cell]; rfl, by rw [(HKY.out.keep hb).cell]; rfl, by rw [(HKY.out.keep hb).cell]; rfl⟩))
  have HR := Lib.hid (fun W hb => rpairs_any _ _ x.R y.R W ((hx.1.below (HB.out)).below (show Below w2.heap.size w2 W from hb)) ((hy.1.below HB.out).below hb))
  have HQ := Lib.hid (fun W hb => rpairs_any _ _ x.W y.W W ((hx.2.below (HB.out)).below (show Below w2.heap.size w2 W from hb)) ((hy.2.below HB.out).below hb))
  have hG : ∀ b, Hid (((x.st == y.st) && ((x.tx == y.tx) && ((x.try_ == y.try_) && ((x.pc == y.pc) && ((x.rv == y.rv) && ((x.wv == y.wv) && ((x.sum == y.sum) && ((x.i == y.i) && ((x.fr == y.fr) && (eqL prEq x.R y.R && (eqL prEq x.W y.W))))))))))) = b) → txEq x y = b := fun b h => h.out
  clear kX kY hw2 bY bX hx hy hb0
  have HG := Lib.hid hG
  clear hG
  simp only [encTx] at HW ⊢
  cases h0 : eqL prEq x.R y.R with
  | false =>
    rw [HG.out false (by show _ = _; simp only [h0, Bool.true_and, Bool.and_true, Bool.false_and, Bool.and_false, Bool.and_self])]
    clear HG
    go_enter Try.func28, Try.ntmps28
    go_upto_region 1 with fail
    rw [HW.out]
    obtain ⟨x0, x1, x2, x3, x4, x5, x6, x7, x8, x9, x10⟩ := Cx.out _ (Below.refl _ _)
    obtain ⟨y0, y1, y2, y3, y4, y5, y6, y7, y8, y9, y10⟩ := Cy.out _ (Below.refl _ _)
    go_wp2_with fail
    have cR := HR.out _ (Below.refl _ _)
    rw [h0] at cR
    refine cR.mono ?_
    rintro e wr ⟨rfl, hbr⟩
    have HBR := Lib.hid hbr
    clear x0 y0 x1 y1 x2 y2 x3 y3 x4 y4 x5 y5 x6 y6 x7 y7 x8 y8 x9 y9 x10 y10 hbr cR
    obtain ⟨x0, x1, x2, x3, x4, x5, x6, x7, x8, x9, x10⟩ := Cx.out _ HBR.out
    obtain ⟨y0, y1, y2, y3, y4, y5, y6, y7, y8, y9, y10⟩ := Cy.out _ HBR.out
    go_wp2_with fail
    have cW := HQ.out _ HBR.out
    obtain ⟨qw, hqw⟩ : ∃ z, z = eqL prEq x.W y.W := ⟨_, rfl⟩
    rw [← hqw] at cW
    refine cW.mono ?_
    rintro e wq ⟨rfl, hbq⟩
    have HBQ := Lib.hid (HBR.out.trans (hbq.mono HBR.out.size))
    clear x0 y0 x1 y1 x2 y2 x3 y3 x4 y4 x5 y5 x6 y6 x7 y7 x8 y8 x9 y9 x10 y10 hbq cW hqw
    obtain ⟨x0, x1, x2, x3, x4, x5, x6, x7, x8, x9, x10⟩ := Cx.out _ HBQ.out
    obtain ⟨y0, y1, y2, y3, y4, y5, y6, y7, y8, y9, y10⟩ := Cy.out _ HBQ.out
    clear x0 y0 x1 y1 x2 y2 x3 y3 x4 y4 x5 y5 x6 y6 x7 y7 x8 y8 x9 y9 x10 y10
    go_upto_region 3 with fail
    try simp only [List.append, List.cons_append, List.nil_append]
    go_wp2_with fail
    go_ret
    exact ⟨rfl, HB.out.trans (HBQ.out.mono HB.out.size)⟩
  | true =>
    cases h1 : eqL prEq x.W y.W with
    | false =>
      rw [HG.out false (by show _ = _; simp only [h0, h1, Bool.true_and, Bool.and_true, Bool.false_and, Bool.and_false, Bool.and_self])]
      clear HG
      go_enter Try.func28, Try.ntmps28
      go_upto_region 1 with fail
      rw [HW.out]
      obtain ⟨x0, x1, x2, x3, x4, x5, x6, x7, x8, x9, x10⟩ := Cx.out _ (Below.refl _ _)
      obtain ⟨y0, y1, y2, y3, y4, y5, y6, y7, y8, y9, y10⟩ := Cy.out _ (Below.refl _ _)
      go_wp2_with fail
      have cR := HR.out _ (Below.refl _ _)
      rw [h0] at cR
      refine cR.mono ?_
      rintro e wr ⟨rfl, hbr⟩
      have HBR := Lib.hid hbr
      clear x0 y0 x1 y1 x2 y2 x3 y3 x4 y4 x5 y5 x6 y6 x7 y7 x8 y8 x9 y9 x10 y10 hbr cR
      obtain ⟨x0, x1, x2, x3, x4, x5, x6, x7, x8, x9, x10⟩ := Cx.out _ HBR.out
      obtain ⟨y0, y1, y2, y3, y4, y5, y6, y7, y8, y9, y10⟩ := Cy.out _ HBR.out
      go_wp2_with fail
      have cW := HQ.out _ HBR.out
      rw [h1] at cW
      refine cW.mono ?_
      rintro e wq ⟨rfl, hbq⟩
      have HBQ := Lib.hid (HBR.out.trans (hbq.mono HBR.out.size))
      clear x0 y0 x1 y1 x2 y2 x3 y3 x4 y4 x5 y5 x6 y6 x7 y7 x8 y8 x9 y9 x10 y10 hbq cW
      obtain ⟨x0, x1, x2, x3, x4, x5, x6, x7, x8, x9, x10⟩ := Cx.out _ HBQ.out
      obtain ⟨y0, y1, y2, y3, y4, y5, y6, y7, y8, y9, y10⟩ := Cy.out _ HBQ.out
      clear x0 y0 x1 y1 x2 y2 x3 y3 x4 y4 x5 y5 x6 y6 x7 y7 x8 y8 x9 y9 x10 y10
      go_upto_region 3 with fail
      try simp only [List.append, List.cons_append, List.nil_append]
      go_wp2_with fail
      go_ret
      exact ⟨rfl, HB.out.trans (HBQ.out.mono HB.out.size)⟩
    | true =>
      cases h2 : (x.st == y.st) with
      | false =>
        rw [HG.out false (by show _ = _; simp only [h0, h1, h2, Bool.true_and, Bool.and_true, Bool.false_and, Bool.and_false, Bool.and_self])]
        clear HG
        go_enter Try.func28, Try.ntmps28
        go_upto_region 1 with fail
        rw [HW.out]
        obtain ⟨x0, x1, x2, x3, x4, x5, x6, x7, x8, x9, x10⟩ := Cx.out _ (Below.refl _ _)
        obtain ⟨y0, y1, y2, y3, y4, y5, y6, y7, y8, y9, y10⟩ := Cy.out _ (Below.refl _ _)
        go_wp2_with fail
        have cR := HR.out _ (Below.refl _ _)
        rw [h0] at cR
        refine cR.mono ?_
        rintro e wr ⟨rfl, hbr⟩
        have HBR := Lib.hid hbr
        clear x0 y0 x1 y1 x2 y2 x3 y3 x4 y4 x5 y5 x6 y6 x7 y7 x8 y8 x9 y9 x10 y10 hbr cR
        obtain ⟨x0, x1, x2, x3, x4, x5, x6, x7, x8, x9, x10⟩ := Cx.out _ HBR.out
        obtain ⟨y0, y1, y2, y3, y4, y5, y6, y7, y8, y9, y10⟩ := Cy.out _ HBR.out
        go_wp2_with fail
        have cW := HQ.out _ HBR.out
        rw [h1] at cW
        refine cW.mono ?_
        rintro e wq ⟨rfl, hbq⟩
        have HBQ := Lib.hid (HBR.out.trans (hbq.mono HBR.out.size))
        clear x0 y0 x1 y1 x2 y2 x3 y3 x4 y4 x5 y5 x6 y6 x7 y7 x8 y8 x9 y9 x10 y10 hbq cW
        obtain ⟨x0, x1, x2, x3, x4, x5, x6, x7, x8, x9, x10⟩ := Cx.out _ HBQ.out
        obtain ⟨y0, y1, y2, y3, y4, y5, y6, y7, y8, y9, y10⟩ := Cy.out _ HBQ.out
        clear x1 y1 x2 y2 x3 y3 x4 y4 x5 y5 x6 y6 x7 y7 x8 y8 x9 y9 x10 y10
        go_upto_region 3 with fail
        try simp only [List.append, List.cons_append, List.nil_append]
        go_wp2_with fail
        go_ret
        exact ⟨rfl, HB.out.trans (HBQ.out.mono HB.out.size)⟩
      | true =>
        cases h3 : (x.tx == y.tx) with
        | false =>
          rw [HG.out false (by show _ = _; simp only [h0, h1, h2, h3, Bool.true_and, Bool.and_true, Bool.false_and, Bool.and_false, Bool.and_self])]
          clear HG
          go_enter Try.func28, Try.ntmps28
          go_upto_region 1 with fail
          rw [HW.out]
          obtain ⟨x0, x1, x2, x3, x4, x5, x6, x7, x8, x9, x10⟩ := Cx.out _ (Below.refl _ _)
          obtain ⟨y0, y1, y2, y3, y4, y5, y6, y7, y8, y9, y10⟩ := Cy.out _ (Below.refl _ _)
          go_wp2_with fail
          have cR := HR.out _ (Below.refl _ _)
          rw [h0] at cR
          refine cR.mono ?_
          rintro e wr ⟨rfl, hbr⟩
          have HBR := Lib.hid hbr
          clear x0 y0 x1 y1 x2 y2 x3 y3 x4 y4 x5 y5 x6 y6 x7 y7 x8 y8 x9 y9 x10 y10 hbr cR
          obtain ⟨x0, x1, x2, x3, x4, x5, x6, x7, x8, x9, x10⟩ := Cx.out _ HBR.out
          obtain ⟨y0, y1, y2, y3, y4, y5, y6, y7, y8, y9, y10⟩ := Cy.out _ HBR.out
          go_wp2_with fail
          have cW := HQ.out _ HBR.out
          rw [h1] at cW
          refine cW.mono ?_
          rintro e wq ⟨rfl, hbq⟩
          have HBQ := Lib.hid (HBR.out.trans (hbq.mono HBR.out.size))
          clear x0 y0 x1 y1 x2 y2 x3 y3 x4 y4 x5 y5 x6 y6 x7 y7 x8 y8 x9 y9 x10 y10 hbq cW
          obtain ⟨x0, x1, x2, x3, x4, x5, x6, x7, x8, x9, x10⟩ := Cx.out _ HBQ.out
          obtain ⟨y0, y1, y2, y3, y4, y5, y6, y7, y8, y9, y10⟩ := Cy.out _ HBQ.out
          clear x2 y2 x3 y3 x4 y4 x5 y5 x6 y6 x7 y7 x8 y8 x9 y9 x10 y10
          go_upto_region 3 with fail
          try simp only [List.append, List.cons_append, List.nil_append]
          go_wp2_with fail
          go_ret
          exact ⟨rfl, HB.out.trans (HBQ.out.mono HB.out.size)⟩
        | true =>
          cases h4 : (x.try_ == y.try_) with
          | false =>
            rw [HG.out false (by show _ = _; simp only [h0, h1, h2, h3, h4, Bool.true_and, Bool.and_true, Bool.false_and, Bool.and_false, Bool.and_self])]
            clear HG
            go_enter Try.func28, Try.ntmps28
            go_upto_region 1 with fail
            rw [HW.out]
            obtain ⟨x0, x1, x2, x3, x4, x5, x6, x7, x8, x9, x10⟩ := Cx.out _ (Below.refl _ _)
            obtain ⟨y0, y1, y2, y3, y4, y5, y6, y7, y8, y9, y10⟩ := Cy.out _ (Below.refl _ _)
            go_wp2_with fail
            have cR := HR.out _ (Below.refl _ _)
            rw [h0] at cR
            refine cR.mono ?_
            rintro e wr ⟨rfl, hbr⟩
            have HBR := Lib.hid hbr
            clear x0 y0 x1 y1 x2 y2 x3 y3 x4 y4 x5 y5 x6 y6 x7 y7 x8 y8 x9 y9 x10 y10 hbr cR
            obtain ⟨x0, x1, x2, x3, x4, x5, x6, x7, x8, x9, x10⟩ := Cx.out _ HBR.out
            obtain ⟨y0, y1, y2, y3, y4, y5, y6, y7, y8, y9, y10⟩ := Cy.out _ HBR.out
            go_wp2_with fail
            have cW := HQ.out _ HBR.out
            rw [h1] at cW
            refine cW.mono ?_
            rintro e wq ⟨rfl, hbq⟩
            have HBQ := Lib.hid (HBR.out.trans (hbq.mono HBR.out.size))
            clear x0 y0 x1 y1 x2 y2 x3 y3 x4 y4 x5 y5 x6 y6 x7 y7 x8 y8 x9 y9 x10 y10 hbq cW
            obtain ⟨x0, x1, x2, x3, x4, x5, x6, x7, x8, x9, x10⟩ := Cx.out _ HBQ.out
            obtain ⟨y0, y1, y2, y3, y4, y5, y6, y7, y8, y9, y10⟩ := Cy.out _ HBQ.out
            clear x3 y3 x4 y4 x5 y5 x6 y6 x7 y7 x8 y8 x9 y9 x10 y10
            go_upto_region 3 with fail
            try simp only [List.append, List.cons_append, List.nil_append]
            go_wp2_with fail
            go_ret
            exact ⟨rfl, HB.out.trans (HBQ.out.mono HB.out.size)⟩
          | true =>
            cases h5 : (x.pc == y.pc) with
            | false =>
              rw [HG.out false (by show _ = _; simp only [h0, h1, h2, h3, h4, h5, Bool.true_and, Bool.and_true, Bool.false_and, Bool.and_false, Bool.and_self])]
              clear HG
              go_enter Try.func28, Try.ntmps28
              go_upto_region 1 with fail
              rw [HW.out]
              obtain ⟨x0, x1, x2, x3, x4, x5, x6, x7, x8, x9, x10⟩ := Cx.out _ (Below.refl _ _)
              obtain ⟨y0, y1, y2, y3, y4, y5, y6, y7, y8, y9, y10⟩ := Cy.out _ (Below.refl _ _)
              go_wp2_with fail
              have cR := HR.out _ (Below.refl _ _)
              rw [h0] at cR
              refine cR.mono ?_
              rintro e wr ⟨rfl, hbr⟩
              have HBR := Lib.hid hbr
              clear x0 y0 x1 y1 x2 y2 x3 y3 x4 y4 x5 y5 x6 y6 x7 y7 x8 y8 x9 y9 x10 y10 hbr cR
              obtain ⟨x0, x1, x2, x3, x4, x5, x6, x7, x8, x9, x10⟩ := Cx.out _ HBR.out
              obtain ⟨y0, y1, y2, y3, y4, y5, y6, y7, y8, y9, y10⟩ := Cy.out _ HBR.out
              go_wp2_with fail
              have cW := HQ.out _ HBR.out
              rw [h1] at cW
              refine cW.mono ?_
              rintro e wq ⟨rfl, hbq⟩
              have HBQ := Lib.hid (HBR.out.trans (hbq.mono HBR.out.size))
              clear x0 y0 x1 y1 x2 y2 x3 y3 x4 y4 x5 y5 x6 y6 x7 y7 x8 y8 x9 y9 x10 y10 hbq cW
              obtain ⟨x0, x1, x2, x3, x4, x5, x6, x7, x8, x9, x10⟩ := Cx.out _ HBQ.out
              obtain ⟨y0, y1, y2, y3, y4, y5, y6, y7, y8, y9, y10⟩ := Cy.out _ HBQ.out
              clear x4 y4 x5 y5 x6 y6 x7 y7 x8 y8 x9 y9 x10 y10
              go_upto_region 3 with fail
              try simp only [List.append, List.cons_append, List.nil_append]
              go_wp2_with fail
              go_ret
              exact ⟨rfl, HB.out.trans (HBQ.out.mono HB.out.size)⟩
            | true =>
              cases h6 : (x.rv == y.rv) with
              | false =>
                rw [HG.out false (by show _ = _; simp only [h0, h1, h2, h3, h4, h5, h6, Bool.true_and, Bool.and_true, Bool.false_and, Bool.and_false, Bool.and_self])]
                clear HG
                go_enter Try.func28, Try.ntmps28
                go_upto_region 1 with fail
                rw [HW.out]
                obtain ⟨x0, x1, x2, x3, x4, x5, x6, x7, x8, x9, x10⟩ := Cx.out _ (Below.refl _ _)
                obtain ⟨y0, y1, y2, y3, y4, y5, y6, y7, y8, y9, y10⟩ := Cy.out _ (Below.refl _ _)
                go_wp2_with fail
                have cR := HR.out _ (Below.refl _ _)
                rw [h0] at cR
                refine cR.mono ?_
                rintro e wr ⟨rfl, hbr⟩
                have HBR := Lib.hid hbr
                clear x0 y0 x1 y1 x2 y2 x3 y3 x4 y4 x5 y5 x6 y6 x7 y7 x8 y8 x9 y9 x10 y10 hbr cR
                obtain ⟨x0, x1, x2, x3, x4, x5, x6, x7, x8, x9, x10⟩ := Cx.out _ HBR.out
                obtain ⟨y0, y1, y2, y3, y4, y5, y6, y7, y8, y9, y10⟩ := Cy.out _ HBR.out
                go_wp2_with fail
                have cW := HQ.out _ HBR.out
                rw [h1] at cW
                refine cW.mono ?_
                rintro e wq ⟨rfl, hbq⟩
                have HBQ := Lib.hid (HBR.out.trans (hbq.mono HBR.out.size))
                clear x0 y0 x1 y1 x2 y2 x3 y3 x4 y4 x5 y5 x6 y6 x7 y7 x8 y8 x9 y9 x10 y10 hbq cW
                obtain ⟨x0, x1, x2, x3, x4, x5, x6, x7, x8, x9, x10⟩ := Cx.out _ HBQ.out
                obtain ⟨y0, y1, y2, y3, y4, y5, y6, y7, y8, y9, y10⟩ := Cy.out _ HBQ.out
                clear x5 y5 x6 y6 x7 y7 x8 y8 x9 y9 x10 y10
                go_upto_region 3 with fail
                try simp only [List.append, List.cons_append, List.nil_append]
                go_wp2_with fail
                go_ret
                exact ⟨rfl, HB.out.trans (HBQ.out.mono HB.out.size)⟩
              | true =>
                cases h7 : (x.wv == y.wv) with
                | false =>
                  rw [HG.out false (by show _ = _; simp only [h0, h1, h2, h3, h4, h5, h6, h7, Bool.true_and, Bool.and_true, Bool.false_and, Bool.and_false, Bool.and_self])]
                  clear HG
                  go_enter Try.func28, Try.ntmps28
                  go_upto_region 1 with fail
                  rw [HW.out]
                  obtain ⟨x0, x1, x2, x3, x4, x5, x6, x7, x8, x9, x10⟩ := Cx.out _ (Below.refl _ _)
                  obtain ⟨y0, y1, y2, y3, y4, y5, y6, y7, y8, y9, y10⟩ := Cy.out _ (Below.refl _ _)
                  go_wp2_with fail
                  have cR := HR.out _ (Below.refl _ _)
                  rw [h0] at cR
                  refine cR.mono ?_
                  rintro e wr ⟨rfl, hbr⟩
                  have HBR := Lib.hid hbr
                  clear x0 y0 x1 y1 x2 y2 x3 y3 x4 y4 x5 y5 x6 y6 x7 y7 x8 y8 x9 y9 x10 y10 hbr cR
                  obtain ⟨x0, x1, x2, x3, x4, x5, x6, x7, x8, x9, x10⟩ := Cx.out _ HBR.out
                  obtain ⟨y0, y1, y2, y3, y4, y5, y6, y7, y8, y9, y10⟩ := Cy.out _ HBR.out
                  go_wp2_with fail
                  have cW := HQ.out _ HBR.out
                  rw [h1] at cW
                  refine cW.mono ?_
                  rintro e wq ⟨rfl, hbq⟩
                  have HBQ := Lib.hid (HBR.out.trans (hbq.mono HBR.out.size))
                  clear x0 y0 x1 y1 x2 y2 x3 y3 x4 y4 x5 y5 x6 y6 x7 y7 x8 y8 x9 y9 x10 y10 hbq cW
                  obtain ⟨x0, x1, x2, x3, x4, x5, x6, x7, x8, x9, x10⟩ := Cx.out _ HBQ.out
                  obtain ⟨y0, y1, y2, y3, y4, y5, y6, y7, y8, y9, y10⟩ := Cy.out _ HBQ.out
                  clear x6 y6 x7 y7 x8 y8 x9 y9 x10 y10
                  go_upto_region 3 with fail
                  try simp only [List.append, List.cons_append, List.nil_append]
                  go_wp2_with fail
                  go_ret
                  exact ⟨rfl, HB.out.trans (HBQ.out.mono HB.out.size)⟩
                | true =>
                  cases h8 : (x.sum == y.sum) with
                  | false =>
                    rw [HG.out false (by show _ = _; simp only [h0, h1, h2, h3, h4, h5, h6, h7, h8, Bool.true_and, Bool.and_true, Bool.false_and, Bool.and_false, Bool.and_self])]
                    clear HG
                    go_enter Try.func28, Try.ntmps28
                    go_upto_region 1 with fail
                    rw [HW.out]
                    obtain ⟨x0, x1, x2, x3, x4, x5, x6, x7, x8, x9, x10⟩ := Cx.out _ (Below.refl _ _)
                    obtain ⟨y0, y1, y2, y3, y4, y5, y6, y7, y8, y9, y10⟩ := Cy.out _ (Below.refl _ _)
                    go_wp2_with fail
                    have cR := HR.out _ (Below.refl _ _)
                    rw [h0] at cR
                    refine cR.mono ?_
                    rintro e wr ⟨rfl, hbr⟩
                    have HBR := Lib.hid hbr
                    clear x0 y0 x1 y1 x2 y2 x3 y3 x4 y4 x5 y5 x6 y6 x7 y7 x8 y8 x9 y9 x10 y10 hbr cR
                    obtain ⟨x0, x1, x2, x3, x4, x5, x6, x7, x8, x9, x10⟩ := Cx.out _ HBR.out
                    obtain ⟨y0, y1, y2, y3, y4, y5, y6, y7, y8, y9, y10⟩ := Cy.out _ HBR.out
                    go_wp2_with fail
                    have cW := HQ.out _ HBR.out
                    rw [h1] at cW
                    refine cW.mono ?_
                    rintro e wq ⟨rfl, hbq⟩
                    have HBQ := Lib.hid (HBR.out.trans (hbq.mono HBR.out.size))
                    clear x0 y0 x1 y1 x2 y2 x3 y3 x4 y4 x5 y5 x6 y6 x7 y7 x8 y8 x9 y9 x10 y10 hbq cW
                    obtain ⟨x0, x1, x2, x3, x4, x5, x6, x7, x8, x9, x10⟩ := Cx.out _ HBQ.out
                    obtain ⟨y0, y1, y2, y3, y4, y5, y6, y7, y8, y9, y10⟩ := Cy.out _ HBQ.out
                    clear x7 y7 x8 y8 x9 y9 x10 y10
                    go_upto_region 3 with fail
                    try simp only [List.append, List.cons_append, List.nil_append]
                    go_wp2_with fail
                    go_ret
                    exact ⟨rfl, HB.out.trans (HBQ.out.mono HB.out.size)⟩
                  | true =>
                    cases h9 : (x.i == y.i) with
                    | false =>
                      rw [HG.out false (by show _ = _; simp only [h0, h1, h2, h3, h4, h5, h6, h7, h8, h9, Bool.true_and, Bool.and_true, Bool.false_and, Bool.and_false, Bool.and_self])]
                      clear HG
                      go_enter Try.func28, Try.ntmps28
                      go_upto_region 1 with fail
                      rw [HW.out]
                      obtain ⟨x0, x1, x2, x3, x4, x5, x6, x7, x8, x9, x10⟩ := Cx.out _ (Below.refl _ _)
                      obtain ⟨y0, y1, y2, y3, y4, y5, y6, y7, y8, y9, y10⟩ := Cy.out _ (Below.refl _ _)
                      go_wp2_with fail
                      have cR := HR.out _ (Below.refl _ _)
                      rw [h0] at cR
                      refine cR.mono ?_
                      rintro e wr ⟨rfl, hbr⟩
                      have HBR := Lib.hid hbr
                      clear x0 y0 x1 y1 x2 y2 x3 y3 x4 y4 x5 y5 x6 y6 x7 y7 x8 y8 x9 y9 x10 y10 hbr cR
                      obtain ⟨x0, x1, x2, x3, x4, x5, x6, x7, x8, x9, x10⟩ := Cx.out _ HBR.out
                      obtain ⟨y0, y1, y2, y3, y4, y5, y6, y7, y8, y9, y10⟩ := Cy.out _ HBR.out
                      go_wp2_with fail
                      have cW := HQ.out _ HBR.out
                      rw [h1] at cW
                      refine cW.mono ?_
                      rintro e wq ⟨rfl, hbq⟩
                      have HBQ := Lib.hid (HBR.out.trans (hbq.mono HBR.out.size))
                      clear x0 y0 x1 y1 x2 y2 x3 y3 x4 y4 x5 y5 x6 y6 x7 y7 x8 y8 x9 y9 x10 y10 hbq cW
                      obtain ⟨x0, x1, x2, x3, x4, x5, x6, x7, x8, x9, x10⟩ := Cx.out _ HBQ.out
                      obtain ⟨y0, y1, y2, y3, y4, y5, y6, y7, y8, y9, y10⟩ := Cy.out _ HBQ.out
                      clear x7 y7 x8 y8 x10 y10
                      go_upto_region 3 with fail
                      try simp only [List.append, List.cons_append, List.nil_append]
                      go_wp2_with fail
                      go_ret
                      exact ⟨rfl, HB.out.trans (HBQ.out.mono HB.out.size)⟩
                    | true =>
                      cases h10 : (x.fr == y.fr) with
                      | false =>
                        rw [HG.out false (by show _ = _; simp only [h0, h1, h2, h3, h4, h5, h6, h7, h8, h9, h10, Bool.true_and, Bool.and_true, Bool.false_and, Bool.and_false, Bool.and_self])]
                        clear HG
                        go_enter Try.func28, Try.ntmps28
                        go_upto_region 1 with fail
                        rw [HW.out]
                        obtain ⟨x0, x1, x2, x3, x4, x5, x6, x7, x8, x9, x10⟩ := Cx.out _ (Below.refl _ _)
                        obtain ⟨y0, y1, y2, y3, y4, y5, y6, y7, y8, y9, y10⟩ := Cy.out _ (Below.refl _ _)
                        go_wp2_with fail
                        have cR := HR.out _ (Below.refl _ _)
                        rw [h0] at cR
                        refine cR.mono ?_
                        rintro e wr ⟨rfl, hbr⟩
                        have HBR := Lib.hid hbr
                        clear x0 y0 x1 y1 x2 y2 x3 y3 x4 y4 x5 y5 x6 y6 x7 y7 x8 y8 x9 y9 x10 y10 hbr cR
                        obtain ⟨x0, x1, x2, x3, x4, x5, x6, x7, x8, x9, x10⟩ := Cx.out _ HBR.out
                        obtain ⟨y0, y1, y2, y3, y4, y5, y6, y7, y8, y9, y10⟩ := Cy.out _ HBR.out
                        go_wp2_with fail
                        have cW := HQ.out _ HBR.out
                        rw [h1] at cW
                        refine cW.mono ?_
                        rintro e wq ⟨rfl, hbq⟩
                        have HBQ := Lib.hid (HBR.out.trans (hbq.mono HBR.out.size))
                        clear x0 y0 x1 y1 x2 y2 x3 y3 x4 y4 x5 y5 x6 y6 x7 y7 x8 y8 x9 y9 x10 y10 hbq cW
                        obtain ⟨x0, x1, x2, x3, x4, x5, x6, x7, x8, x9, x10⟩ := Cx.out _ HBQ.out
                        obtain ⟨y0, y1, y2, y3, y4, y5, y6, y7, y8, y9, y10⟩ := Cy.out _ HBQ.out
                        clear x7 y7 x8 y8
                        go_upto_region 3 with fail
                        try simp only [List.append, List.cons_append, List.nil_append]
                        go_wp2_with fail
                        go_ret
                        exact ⟨rfl, HB.out.trans (HBQ.out.mono HB.out.size)⟩
                      | true =>
                        rw [HG.out true (by show _ = _; simp only [h0, h1, h2, h3, h4, h5, h6, h7, h8, h9, h10, Bool.true_and, Bool.and_true, Bool.false_and, Bool.and_false, Bool.and_self])]
                        clear HG
                        go_enter Try.func28, Try.ntmps28
                        go_upto_region 1 with fail
                        rw [HW.out]
                        obtain ⟨x0, x1, x2, x3, x4, x5, x6, x7, x8, x9, x10⟩ := Cx.out _ (Below.refl _ _)
                        obtain ⟨y0, y1, y2, y3, y4, y5, y6, y7, y8, y9, y10⟩ := Cy.out _ (Below.refl _ _)
                        go_wp2_with fail
                        have cR := HR.out _ (Below.refl _ _)
                        rw [h0] at cR
                        refine cR.mono ?_
                        rintro e wr ⟨rfl, hbr⟩
                        have HBR := Lib.hid hbr
                        clear x0 y0 x1 y1 x2 y2 x3 y3 x4 y4 x5 y5 x6 y6 x7 y7 x8 y8 x9 y9 x10 y10 hbr cR
                        obtain ⟨x0, x1, x2, x3, x4, x5, x6, x7, x8, x9, x10⟩ := Cx.out _ HBR.out
                        obtain ⟨y0, y1, y2, y3, y4, y5, y6, y7, y8, y9, y10⟩ := Cy.out _ HBR.out
                        go_wp2_with fail
                        have cW := HQ.out _ HBR.out
                        rw [h1] at cW
                        refine cW.mono ?_
                        rintro e wq ⟨rfl, hbq⟩
                        have HBQ := Lib.hid (HBR.out.trans (hbq.mono HBR.out.size))
                        clear x0 y0 x1 y1 x2 y2 x3 y3 x4 y4 x5 y5 x6 y6 x7 y7 x8 y8 x9 y9 x10 y10 hbq cW
                        obtain ⟨x0, x1, x2, x3, x4, x5, x6, x7, x8, x9, x10⟩ := Cx.out _ HBQ.out
                        obtain ⟨y0, y1, y2, y3, y4, y5, y6, y7, y8, y9, y10⟩ := Cy.out _ HBQ.out
                        clear x7 y7 x8 y8
                        go_upto_region 3 with fail
                        try simp only [List.append, List.cons_append, List.nil_append]
                        go_wp2_with fail
                        go_ret
                        exact ⟨rfl, HB.out.trans (HBQ.out.mono HB.out.size)⟩
set_option maxHeartbeats 16000000 in
theorem rrec_any (x y : Rx) (w : World) (hx : Sl w 2 (.slice x.rA x.R.length x.rc) x.R.length (x.R.flatMap encPr) ∧ Sl w 2 (.slice x.wA x.W.length x.wc) x.W.length (x.W.flatMap encPr)) (hy : Sl w 2 (.slice y.rA y.R.length y.rc) y.R.length (y.R.flatMap encPr) ∧ Sl w 2 (.slice y.wA y.W.length y.wc) y.W.length (y.W.flatMap encPr)) :
    Calls Try.prog 29 #[.agg (encRx x).toArray, .agg (encRx y).toArray] w fun e w' => e = .returned (.bool (rxEq x y)) ∧ Below w.heap.size w w' := by
  have kX := Blk.new w 50 (encRx x).toArray
  have bX : Below w.heap.size w (w.alloc (.cells (encRx x).toArray 50)) := (Below.refl _ w).alloc (Nat.le_refl _) _
  have kY := Blk.new (w.alloc (.cells (encRx x).toArray 50)) 50 (encRx y).toArray
  have kX := kX.keep (show Below _ _ ((w.alloc (.cells (encRx x).toArray 50)).alloc (.cells (encRx y).toArray 50)) from (Below.refl _ _).alloc (Nat.le_refl _) _)
  have bY : Below w.heap.size w ((w.alloc (.cells (encRx x).toArray 50)).alloc (.cells (encRx y).toArray 50)) := bX.alloc (by simp) _
  have hb0 : (w.alloc (.cells (encRx x).toArray 50)).heap.size = w.heap.size + 1 := by simp
  rw [hb0] at kY
  obtain ⟨w2, hw2⟩ : ∃ z, (w.alloc (.cells (encRx x).toArray 50)).alloc (.cells (encRx y).toArray 50) = z := ⟨_, rfl⟩
  rw [hw2] at kX kY bY
  have HW := Lib.hid hw2
  have HB := Lib.hid bY
  have HKX := Lib.hid kX
  have HKY := Lib.hid kY
  have Cx := Lib.hid (fun W (hb : Below w2.heap.size w2 W) => (show W.cell? ⟨w.heap.size, 0, none⟩ = some (.int .i64 x.who) ∧ W.cell? ⟨w.heap.size, 1, none⟩ = some (.int .i64 x.tx) ∧ W.cell? ⟨w.heap.size, 2, none⟩ = some (.int .i64 x.try_) ∧ W.cell? ⟨w.heap.size, 3, none⟩ = some (.int .i64 x.en) ∧ W.cell? ⟨w.heap.size, 4, none⟩ = some (.int .i64 x.rv) ∧ W.cell? ⟨w.heap.size, 5, none⟩ = some (.int .i64 x.wv) ∧ W.cell? ⟨w.heap.size, 6, none⟩ = some (.slice x.rA x.R.length x.rc) ∧ W.cell? ⟨w.heap.size, 7, none⟩ = some (.slice x.wA x.W.length x.wc) ∧ W.cell? ⟨w.heap.size, 8, none⟩ = some (.int .i64 x.fr) ∧ W.cell? ⟨w.heap.size, 9, none⟩ = some (.int .i64 x.to_) from ⟨by rw [(HKX.out.keep hb).cell]; rfl, by rw [(HKX.out.keep hb).cell]; rfl, by rw [(HKX.out.keep hb).cell]; rfl, by rw [(HKX.out.keep hb).cell]; rfl, by rw [(HKX.out.keep hb).cell]; rfl, by rw [(HKX.out.keep hb).cell]; rfl, by rw [(HKX.out.keep hb).cell]; rfl, by rw [(HKX.out.keep hb).cell]; rfl, by rw [(HKX.out.keep hb).cell]; rfl, by rw [(HKX.out.keep hb).cell]; rfl⟩))
  have Cy := Lib.hid (fun W (hb : Below w2.heap.size w2 W) => (show W.cell? ⟨w.heap.size + 1, 0, none⟩ = some (.int .i64 y.who) ∧ W.cell? ⟨w.heap.size + 1, 1, none⟩ = some (.int .i64 y.tx) ∧ W.cell? ⟨w.heap.size + 1, 2, none⟩ = some (.int .i64 y.try_) ∧ W.cell? ⟨w.heap.size + 1, 3, none⟩ = some (.int .i64 y.en) ∧ W.cell? ⟨w.heap.size + 1, 4, none⟩ = some (.int .i64 y.rv) ∧ W.cell? ⟨w.heap.size + 1, 5, none⟩ = some (.int .i64 y.wv) ∧ W.cell? ⟨w.heap.size + 1, 6, none⟩ = some (.slice y.rA y.R.length y.rc) ∧ W.cell? ⟨w.heap.size + 1, 7, none⟩ = some (.slice y.wA y.W.length y.wc) ∧ W.cell? ⟨w.heap.size + 1, 8, none⟩ = some (.int .i64 y.fr) ∧ W.cell? ⟨w.heap.size + 1, 9, none⟩ = some (.int .i64 y.to_) from ⟨by rw [(HKY.out.keep hb).cell]; rfl, by rw [(HKY.out.keep hb).cell]; rfl, by rw [(HKY.out.keep hb).cell]; rfl, by rw [(HKY.out.keep hb).cell]; rfl, by rw [(HKY.out.keep hb).cell]; rfl, by rw [(HKY.out.keep hb).cell]; rfl, by rw [(HKY.out.keep hb).cell]; rfl, by rw [(HKY.out.keep hb).cell]; rfl, by rw [(HKY.out.keep hb).cell]; rfl, by rw [(HKY.out.keep hb).cell]; rfl⟩))
  have HR := Lib.hid (fun W hb => rpairs_any _ _ x.R y.R W ((hx.1.below (HB.out)).below (show Below w2.heap.size w2 W from hb)) ((hy.1.below HB.out).below hb))
  have HQ := Lib.hid (fun W hb => rpairs_any _ _ x.W y.W W ((hx.2.below (HB.out)).below (show Below w2.heap.size w2 W from hb)) ((hy.2.below HB.out).below hb))
  have hG : ∀ b, Hid (((x.who == y.who) && ((x.tx == y.tx) && ((x.try_ == y.try_) && ((x.en == y.en) && ((x.rv == y.rv) && ((x.wv == y.wv) && ((x.fr == y.fr) && ((x.to_ == y.to_) && (eqL prEq x.R y.R && (eqL prEq x.W y.W)))))))))) = b) → rxEq x y = b := fun b h => h.out
  clear kX kY hw2 bY bX hx hy hb0
  have HG := Lib.hid hG
  clear hG
  simp only [encRx] at HW ⊢
  cases h0 : eqL prEq x.R y.R with
  | false =>
    rw [HG.out false (by show _ = _; simp only [h0, Bool.true_and, Bool.and_true, Bool.false_and, Bool.and_false, Bool.and_self])]
    clear HG
    go_enter Try.func29, Try.ntmps29
    go_upto_region 1 with fail
    rw [HW.out]
    obtain ⟨x0, x1, x2, x3, x4, x5, x6, x7, x8, x9⟩ := Cx.out _ (Below.refl _ _)
    obtain ⟨y0, y1, y2, y3, y4, y5, y6, y7, y8, y9⟩ := Cy.out _ (Below.refl _ _)
    go_wp2_with fail
    have cR := HR.out _ (Below.refl _ _)
    rw [h0] at cR
    refine cR.mono ?_
    rintro e wr ⟨rfl, hbr⟩
    have HBR := Lib.hid hbr
    clear x0 y0 x1 y1 x2 y2 x3 y3 x4 y4 x5 y5 x6 y6 x7 y7 x8 y8 x9 y9 hbr cR
    obtain ⟨x0, x1, x2, x3, x4, x5, x6, x7, x8, x9⟩ := Cx.out _ HBR.out
    obtain ⟨y0, y1, y2, y3, y4, y5, y6, y7, y8, y9⟩ := Cy.out _ HBR.out
    go_wp2_with fail
    have cW := HQ.out _ HBR.out
    obtain ⟨qw, hqw⟩ : ∃ z, z = eqL prEq x.W y.W := ⟨_, rfl⟩
    rw [← hqw] at cW
    refine cW.mono ?_
    rintro e wq ⟨rfl, hbq⟩
    have HBQ := Lib.hid (HBR.out.trans (hbq.mono HBR.out.size))
    clear x0 y0 x1 y1 x2 y2 x3 y3 x4 y4 x5 y5 x6 y6 x7 y7 x8 y8 x9 y9 hbq cW hqw
    obtain ⟨x0, x1, x2, x3, x4, x5, x6, x7, x8, x9⟩ := Cx.out _ HBQ.out
    obtain ⟨y0, y1, y2, y3, y4, y5, y6, y7, y8, y9⟩ := Cy.out _ HBQ.out
    clear x0 y0 x1 y1 x2 y2 x3 y3 x4 y4 x5 y5 x6 y6 x7 y7 x8 y8 x9 y9
    go_upto_region 3 with fail
    try simp only [List.append, List.cons_append, List.nil_append]
    go_wp2_with fail
    go_ret
    exact ⟨rfl, HB.out.trans (HBQ.out.mono HB.out.size)⟩
  | true =>
    cases h1 : eqL prEq x.W y.W with
    | false =>
      rw [HG.out false (by show _ = _; simp only [h0, h1, Bool.true_and, Bool.and_true, Bool.false_and, Bool.and_false, Bool.and_self])]
      clear HG
      go_enter Try.func29, Try.ntmps29
      go_upto_region 1 with fail
      rw [HW.out]
      obtain ⟨x0, x1, x2, x3, x4, x5, x6, x7, x8, x9⟩ := Cx.out _ (Below.refl _ _)
      obtain ⟨y0, y1, y2, y3, y4, y5, y6, y7, y8, y9⟩ := Cy.out _ (Below.refl _ _)
      go_wp2_with fail
      have cR := HR.out _ (Below.refl _ _)
      rw [h0] at cR
      refine cR.mono ?_
      rintro e wr ⟨rfl, hbr⟩
      have HBR := Lib.hid hbr
      clear x0 y0 x1 y1 x2 y2 x3 y3 x4 y4 x5 y5 x6 y6 x7 y7 x8 y8 x9 y9 hbr cR
      obtain ⟨x0, x1, x2, x3, x4, x5, x6, x7, x8, x9⟩ := Cx.out _ HBR.out
      obtain ⟨y0, y1, y2, y3, y4, y5, y6, y7, y8, y9⟩ := Cy.out _ HBR.out
      go_wp2_with fail
      have cW := HQ.out _ HBR.out
      rw [h1] at cW
      refine cW.mono ?_
      rintro e wq ⟨rfl, hbq⟩
      have HBQ := Lib.hid (HBR.out.trans (hbq.mono HBR.out.size))
      clear x0 y0 x1 y1 x2 y2 x3 y3 x4 y4 x5 y5 x6 y6 x7 y7 x8 y8 x9 y9 hbq cW
      obtain ⟨x0, x1, x2, x3, x4, x5, x6, x7, x8, x9⟩ := Cx.out _ HBQ.out
      obtain ⟨y0, y1, y2, y3, y4, y5, y6, y7, y8, y9⟩ := Cy.out _ HBQ.out
      clear x0 y0 x1 y1 x2 y2 x3 y3 x4 y4 x5 y5 x6 y6 x7 y7 x8 y8 x9 y9
      go_upto_region 3 with fail
      try simp only [List.append, List.cons_append, List.nil_append]
      go_wp2_with fail
      go_ret
      exact ⟨rfl, HB.out.trans (HBQ.out.mono HB.out.size)⟩
    | true =>
      cases h2 : (x.who == y.who) with
      | false =>
        rw [HG.out false (by show _ = _; simp only [h0, h1, h2, Bool.true_and, Bool.and_true, Bool.false_and, Bool.and_false, Bool.and_self])]
        clear HG
        go_enter Try.func29, Try.ntmps29
        go_upto_region 1 with fail
        rw [HW.out]
        obtain ⟨x0, x1, x2, x3, x4, x5, x6, x7, x8, x9⟩ := Cx.out _ (Below.refl _ _)
        obtain ⟨y0, y1, y2, y3, y4, y5, y6, y7, y8, y9⟩ := Cy.out _ (Below.refl _ _)
        go_wp2_with fail
        have cR := HR.out _ (Below.refl _ _)
        rw [h0] at cR
        refine cR.mono ?_
        rintro e wr ⟨rfl, hbr⟩
        have HBR := Lib.hid hbr
        clear x0 y0 x1 y1 x2 y2 x3 y3 x4 y4 x5 y5 x6 y6 x7 y7 x8 y8 x9 y9 hbr cR
        obtain ⟨x0, x1, x2, x3, x4, x5, x6, x7, x8, x9⟩ := Cx.out _ HBR.out
        obtain ⟨y0, y1, y2, y3, y4, y5, y6, y7, y8, y9⟩ := Cy.out _ HBR.out
        go_wp2_with fail
        have cW := HQ.out _ HBR.out
        rw [h1] at cW
        refine cW.mono ?_
        rintro e wq ⟨rfl, hbq⟩
        have HBQ := Lib.hid (HBR.out.trans (hbq.mono HBR.out.size))
        clear x0 y0 x1 y1 x2 y2 x3 y3 x4 y4 x5 y5 x6 y6 x7 y7 x8 y8 x9 y9 hbq cW
        obtain ⟨x0, x1, x2, x3, x4, x5, x6, x7, x8, x9⟩ := Cx.out _ HBQ.out
        obtain ⟨y0, y1, y2, y3, y4, y5, y6, y7, y8, y9⟩ := Cy.out _ HBQ.out
        clear x1 y1 x2 y2 x3 y3 x4 y4 x5 y5 x6 y6 x7 y7 x8 y8 x9 y9
        go_upto_region 3 with fail
        try simp only [List.append, List.cons_append, List.nil_append]
        go_wp2_with fail
        go_ret
        exact ⟨rfl, HB.out.trans (HBQ.out.mono HB.out.size)⟩
      | true =>
        cases h3 : (x.tx == y.tx) with
        | false =>
          rw [HG.out false (by show _ = _; simp only [h0, h1, h2, h3, Bool.true_and, Bool.and_true, Bool.false_and, Bool.and_false, Bool.and_self])]
          clear HG
          go_enter Try.func29, Try.ntmps29
          go_upto_region 1 with fail
          rw [HW.out]
          obtain ⟨x0, x1, x2, x3, x4, x5, x6, x7, x8, x9⟩ := Cx.out _ (Below.refl _ _)
          obtain ⟨y0, y1, y2, y3, y4, y5, y6, y7, y8, y9⟩ := Cy.out _ (Below.refl _ _)
          go_wp2_with fail
          have cR := HR.out _ (Below.refl _ _)
          rw [h0] at cR
          refine cR.mono ?_
          rintro e wr ⟨rfl, hbr⟩
          have HBR := Lib.hid hbr
          clear x0 y0 x1 y1 x2 y2 x3 y3 x4 y4 x5 y5 x6 y6 x7 y7 x8 y8 x9 y9 hbr cR
          obtain ⟨x0, x1, x2, x3, x4, x5, x6, x7, x8, x9⟩ := Cx.out _ HBR.out
          obtain ⟨y0, y1, y2, y3, y4, y5, y6, y7, y8, y9⟩ := Cy.out _ HBR.out
          go_wp2_with fail
          have cW := HQ.out _ HBR.out
          rw [h1] at cW
          refine cW.mono ?_
          rintro e wq ⟨rfl, hbq⟩
          have HBQ := Lib.hid (HBR.out.trans (hbq.mono HBR.out.size))
          clear x0 y0 x1 y1 x2 y2 x3 y3 x4 y4 x5 y5 x6 y6 x7 y7 x8 y8 x9 y9 hbq cW
          obtain ⟨x0, x1, x2, x3, x4, x5, x6, x7, x8, x9⟩ := Cx.out _ HBQ.out
          obtain ⟨y0, y1, y2, y3, y4, y5, y6, y7, y8, y9⟩ := Cy.out _ HBQ.out
          clear x2 y2 x3 y3 x4 y4 x5 y5 x6 y6 x7 y7 x8 y8 x9 y9
          go_upto_region 3 with fail
          try simp only [List.append, List.cons_append, List.nil_append]
          go_wp2_with fail
          go_ret
          exact ⟨rfl, HB.out.trans (HBQ.out.mono HB.out.size)⟩
        | true =>
          cases h4 : (x.try_ == y.try_) with
          | false =>
            rw [HG.out false (by show _ = _; simp only [h0, h1, h2, h3, h4, Bool.true_and, Bool.and_true, Bool.false_and, Bool.and_false, Bool.and_self])]
            clear HG
            go_enter Try.func29, Try.ntmps29
            go_upto_region 1 with fail
            rw [HW.out]
            obtain ⟨x0, x1, x2, x3, x4, x5, x6, x7, x8, x9⟩ := Cx.out _ (Below.refl _ _)
            obtain ⟨y0, y1, y2, y3, y4, y5, y6, y7, y8, y9⟩ := Cy.out _ (Below.refl _ _)
            go_wp2_with fail
            have cR := HR.out _ (Below.refl _ _)
            rw [h0] at cR
            refine cR.mono ?_
            rintro e wr ⟨rfl, hbr⟩
            have HBR := Lib.hid hbr
            clear x0 y0 x1 y1 x2 y2 x3 y3 x4 y4 x5 y5 x6 y6 x7 y7 x8 y8 x9 y9 hbr cR
            obtain ⟨x0, x1, x2, x3, x4, x5, x6, x7, x8, x9⟩ := Cx.out _ HBR.out
            obtain ⟨y0, y1, y2, y3, y4, y5, y6, y7, y8, y9⟩ := Cy.out _ HBR.out
            go_wp2_with fail
            have cW := HQ.out _ HBR.out
            rw [h1] at cW
            refine cW.mono ?_
            rintro e wq ⟨rfl, hbq⟩
            have HBQ := Lib.hid (HBR.out.trans (hbq.mono HBR.out.size))
            clear x0 y0 x1 y1 x2 y2 x3 y3 x4 y4 x5 y5 x6 y6 x7 y7 x8 y8 x9 y9 hbq cW
            obtain ⟨x0, x1, x2, x3, x4, x5, x6, x7, x8, x9⟩ := Cx.out _ HBQ.out
            obtain ⟨y0, y1, y2, y3, y4, y5, y6, y7, y8, y9⟩ := Cy.out _ HBQ.out
            clear x3 y3 x4 y4 x5 y5 x6 y6 x7 y7 x8 y8 x9 y9
            go_upto_region 3 with fail
            try simp only [List.append, List.cons_append, List.nil_append]
            go_wp2_with fail
            go_ret
            exact ⟨rfl, HB.out.trans (HBQ.out.mono HB.out.size)⟩
          | true =>
            cases h5 : (x.en == y.en) with
            | false =>
              rw [HG.out false (by show _ = _; simp only [h0, h1, h2, h3, h4, h5, Bool.true_and, Bool.and_true, Bool.false_and, Bool.and_false, Bool.and_self])]
              clear HG
              go_enter Try.func29, Try.ntmps29
              go_upto_region 1 with fail
              rw [HW.out]
              obtain ⟨x0, x1, x2, x3, x4, x5, x6, x7, x8, x9⟩ := Cx.out _ (Below.refl _ _)
              obtain ⟨y0, y1, y2, y3, y4, y5, y6, y7, y8, y9⟩ := Cy.out _ (Below.refl _ _)
              go_wp2_with fail
              have cR := HR.out _ (Below.refl _ _)
              rw [h0] at cR
              refine cR.mono ?_
              rintro e wr ⟨rfl, hbr⟩
              have HBR := Lib.hid hbr
              clear x0 y0 x1 y1 x2 y2 x3 y3 x4 y4 x5 y5 x6 y6 x7 y7 x8 y8 x9 y9 hbr cR
              obtain ⟨x0, x1, x2, x3, x4, x5, x6, x7, x8, x9⟩ := Cx.out _ HBR.out
              obtain ⟨y0, y1, y2, y3, y4, y5, y6, y7, y8, y9⟩ := Cy.out _ HBR.out
              go_wp2_with fail
              have cW := HQ.out _ HBR.out
              rw [h1] at cW
              refine cW.mono ?_
              rintro e wq ⟨rfl, hbq⟩
              have HBQ := Lib.hid (HBR.out.trans (hbq.mono HBR.out.size))
              clear x0 y0 x1 y1 x2 y2 x3 y3 x4 y4 x5 y5 x6 y6 x7 y7 x8 y8 x9 y9 hbq cW
              obtain ⟨x0, x1, x2, x3, x4, x5, x6, x7, x8, x9⟩ := Cx.out _ HBQ.out
              obtain ⟨y0, y1, y2, y3, y4, y5, y6, y7, y8, y9⟩ := Cy.out _ HBQ.out
              clear x4 y4 x5 y5 x6 y6 x7 y7 x8 y8 x9 y9
              go_upto_region 3 with fail
              try simp only [List.append, List.cons_append, List.nil_append]
              go_wp2_with fail
              go_ret
              exact ⟨rfl, HB.out.trans (HBQ.out.mono HB.out.size)⟩
            | true =>
              cases h6 : (x.rv == y.rv) with
              | false =>
                rw [HG.out false (by show _ = _; simp only [h0, h1, h2, h3, h4, h5, h6, Bool.true_and, Bool.and_true, Bool.false_and, Bool.and_false, Bool.and_self])]
                clear HG
                go_enter Try.func29, Try.ntmps29
                go_upto_region 1 with fail
                rw [HW.out]
                obtain ⟨x0, x1, x2, x3, x4, x5, x6, x7, x8, x9⟩ := Cx.out _ (Below.refl _ _)
                obtain ⟨y0, y1, y2, y3, y4, y5, y6, y7, y8, y9⟩ := Cy.out _ (Below.refl _ _)
                go_wp2_with fail
                have cR := HR.out _ (Below.refl _ _)
                rw [h0] at cR
                refine cR.mono ?_
                rintro e wr ⟨rfl, hbr⟩
                have HBR := Lib.hid hbr
                clear x0 y0 x1 y1 x2 y2 x3 y3 x4 y4 x5 y5 x6 y6 x7 y7 x8 y8 x9 y9 hbr cR
                obtain ⟨x0, x1, x2, x3, x4, x5, x6, x7, x8, x9⟩ := Cx.out _ HBR.out
                obtain ⟨y0, y1, y2, y3, y4, y5, y6, y7, y8, y9⟩ := Cy.out _ HBR.out
                go_wp2_with fail
                have cW := HQ.out _ HBR.out
                rw [h1] at cW
                refine cW.mono ?_
                rintro e wq ⟨rfl, hbq⟩
                have HBQ := Lib.hid (HBR.out.trans (hbq.mono HBR.out.size))
                clear x0 y0 x1 y1 x2 y2 x3 y3 x4 y4 x5 y5 x6 y6 x7 y7 x8 y8 x9 y9 hbq cW
                obtain ⟨x0, x1, x2, x3, x4, x5, x6, x7, x8, x9⟩ := Cx.out _ HBQ.out
                obtain ⟨y0, y1, y2, y3, y4, y5, y6, y7, y8, y9⟩ := Cy.out _ HBQ.out
                clear x5 y5 x6 y6 x7 y7 x8 y8 x9 y9
                go_upto_region 3 with fail
                try simp only [List.append, List.cons_append, List.nil_append]
                go_wp2_with fail
                go_ret
                exact ⟨rfl, HB.out.trans (HBQ.out.mono HB.out.size)⟩
              | true =>
                cases h7 : (x.wv == y.wv) with
                | false =>
                  rw [HG.out false (by show _ = _; simp only [h0, h1, h2, h3, h4, h5, h6, h7, Bool.true_and, Bool.and_true, Bool.false_and, Bool.and_false, Bool.and_self])]
                  clear HG
                  go_enter Try.func29, Try.ntmps29
                  go_upto_region 1 with fail
                  rw [HW.out]
                  obtain ⟨x0, x1, x2, x3, x4, x5, x6, x7, x8, x9⟩ := Cx.out _ (Below.refl _ _)
                  obtain ⟨y0, y1, y2, y3, y4, y5, y6, y7, y8, y9⟩ := Cy.out _ (Below.refl _ _)
                  go_wp2_with fail
                  have cR := HR.out _ (Below.refl _ _)
                  rw [h0] at cR
                  refine cR.mono ?_
                  rintro e wr ⟨rfl, hbr⟩
                  have HBR := Lib.hid hbr
                  clear x0 y0 x1 y1 x2 y2 x3 y3 x4 y4 x5 y5 x6 y6 x7 y7 x8 y8 x9 y9 hbr cR
                  obtain ⟨x0, x1, x2, x3, x4, x5, x6, x7, x8, x9⟩ := Cx.out _ HBR.out
                  obtain ⟨y0, y1, y2, y3, y4, y5, y6, y7, y8, y9⟩ := Cy.out _ HBR.out
                  go_wp2_with fail
                  have cW := HQ.out _ HBR.out
                  rw [h1] at cW
                  refine cW.mono ?_
                  rintro e wq ⟨rfl, hbq⟩
                  have HBQ := Lib.hid (HBR.out.trans (hbq.mono HBR.out.size))
                  clear x0 y0 x1 y1 x2 y2 x3 y3 x4 y4 x5 y5 x6 y6 x7 y7 x8 y8 x9 y9 hbq cW
                  obtain ⟨x0, x1, x2, x3, x4, x5, x6, x7, x8, x9⟩ := Cx.out _ HBQ.out
                  obtain ⟨y0, y1, y2, y3, y4, y5, y6, y7, y8, y9⟩ := Cy.out _ HBQ.out
                  clear x6 y6 x7 y7 x8 y8 x9 y9
                  go_upto_region 3 with fail
                  try simp only [List.append, List.cons_append, List.nil_append]
                  go_wp2_with fail
                  go_ret
                  exact ⟨rfl, HB.out.trans (HBQ.out.mono HB.out.size)⟩
                | true =>
                  cases h8 : (x.fr == y.fr) with
                  | false =>
                    rw [HG.out false (by show _ = _; simp only [h0, h1, h2, h3, h4, h5, h6, h7, h8, Bool.true_and, Bool.and_true, Bool.false_and, Bool.and_false, Bool.and_self])]
                    clear HG
                    go_enter Try.func29, Try.ntmps29
                    go_upto_region 1 with fail
                    rw [HW.out]
                    obtain ⟨x0, x1, x2, x3, x4, x5, x6, x7, x8, x9⟩ := Cx.out _ (Below.refl _ _)
                    obtain ⟨y0, y1, y2, y3, y4, y5, y6, y7, y8, y9⟩ := Cy.out _ (Below.refl _ _)
                    go_wp2_with fail
                    have cR := HR.out _ (Below.refl _ _)
                    rw [h0] at cR
                    refine cR.mono ?_
                    rintro e wr ⟨rfl, hbr⟩
                    have HBR := Lib.hid hbr
                    clear x0 y0 x1 y1 x2 y2 x3 y3 x4 y4 x5 y5 x6 y6 x7 y7 x8 y8 x9 y9 hbr cR
                    obtain ⟨x0, x1, x2, x3, x4, x5, x6, x7, x8, x9⟩ := Cx.out _ HBR.out
                    obtain ⟨y0, y1, y2, y3, y4, y5, y6, y7, y8, y9⟩ := Cy.out _ HBR.out
                    go_wp2_with fail
                    have cW := HQ.out _ HBR.out
                    rw [h1] at cW
                    refine cW.mono ?_
                    rintro e wq ⟨rfl, hbq⟩
                    have HBQ := Lib.hid (HBR.out.trans (hbq.mono HBR.out.size))
                    clear x0 y0 x1 y1 x2 y2 x3 y3 x4 y4 x5 y5 x6 y6 x7 y7 x8 y8 x9 y9 hbq cW
                    obtain ⟨x0, x1, x2, x3, x4, x5, x6, x7, x8, x9⟩ := Cx.out _ HBQ.out
                    obtain ⟨y0, y1, y2, y3, y4, y5, y6, y7, y8, y9⟩ := Cy.out _ HBQ.out
                    clear x6 y6 x7 y7 x9 y9
                    go_upto_region 3 with fail
                    try simp only [List.append, List.cons_append, List.nil_append]
                    go_wp2_with fail
                    go_ret
                    exact ⟨rfl, HB.out.trans (HBQ.out.mono HB.out.size)⟩
                  | true =>
                    cases h9 : (x.to_ == y.to_) with
                    | false =>
                      rw [HG.out false (by show _ = _; simp only [h0, h1, h2, h3, h4, h5, h6, h7, h8, h9, Bool.true_and, Bool.and_true, Bool.false_and, Bool.and_false, Bool.and_self])]
                      clear HG
                      go_enter Try.func29, Try.ntmps29
                      go_upto_region 1 with fail
                      rw [HW.out]
                      obtain ⟨x0, x1, x2, x3, x4, x5, x6, x7, x8, x9⟩ := Cx.out _ (Below.refl _ _)
                      obtain ⟨y0, y1, y2, y3, y4, y5, y6, y7, y8, y9⟩ := Cy.out _ (Below.refl _ _)
                      go_wp2_with fail
                      have cR := HR.out _ (Below.refl _ _)
                      rw [h0] at cR
                      refine cR.mono ?_
                      rintro e wr ⟨rfl, hbr⟩
                      have HBR := Lib.hid hbr
                      clear x0 y0 x1 y1 x2 y2 x3 y3 x4 y4 x5 y5 x6 y6 x7 y7 x8 y8 x9 y9 hbr cR
                      obtain ⟨x0, x1, x2, x3, x4, x5, x6, x7, x8, x9⟩ := Cx.out _ HBR.out
                      obtain ⟨y0, y1, y2, y3, y4, y5, y6, y7, y8, y9⟩ := Cy.out _ HBR.out
                      go_wp2_with fail
                      have cW := HQ.out _ HBR.out
                      rw [h1] at cW
                      refine cW.mono ?_
                      rintro e wq ⟨rfl, hbq⟩
                      have HBQ := Lib.hid (HBR.out.trans (hbq.mono HBR.out.size))
                      clear x0 y0 x1 y1 x2 y2 x3 y3 x4 y4 x5 y5 x6 y6 x7 y7 x8 y8 x9 y9 hbq cW
                      obtain ⟨x0, x1, x2, x3, x4, x5, x6, x7, x8, x9⟩ := Cx.out _ HBQ.out
                      obtain ⟨y0, y1, y2, y3, y4, y5, y6, y7, y8, y9⟩ := Cy.out _ HBQ.out
                      clear x6 y6 x7 y7
                      go_upto_region 3 with fail
                      try simp only [List.append, List.cons_append, List.nil_append]
                      go_wp2_with fail
                      go_ret
                      exact ⟨rfl, HB.out.trans (HBQ.out.mono HB.out.size)⟩
                    | true =>
                      rw [HG.out true (by show _ = _; simp only [h0, h1, h2, h3, h4, h5, h6, h7, h8, h9, Bool.true_and, Bool.and_true, Bool.false_and, Bool.and_false, Bool.and_self])]
                      clear HG
                      go_enter Try.func29, Try.ntmps29
                      go_upto_region 1 with fail
                      rw [HW.out]
                      obtain ⟨x0, x1, x2, x3, x4, x5, x6, x7, x8, x9⟩ := Cx.out _ (Below.refl _ _)
                      obtain ⟨y0, y1, y2, y3, y4, y5, y6, y7, y8, y9⟩ := Cy.out _ (Below.refl _ _)
                      go_wp2_with fail
                      have cR := HR.out _ (Below.refl _ _)
                      rw [h0] at cR
                      refine cR.mono ?_
                      rintro e wr ⟨rfl, hbr⟩
                      have HBR := Lib.hid hbr
                      clear x0 y0 x1 y1 x2 y2 x3 y3 x4 y4 x5 y5 x6 y6 x7 y7 x8 y8 x9 y9 hbr cR
                      obtain ⟨x0, x1, x2, x3, x4, x5, x6, x7, x8, x9⟩ := Cx.out _ HBR.out
                      obtain ⟨y0, y1, y2, y3, y4, y5, y6, y7, y8, y9⟩ := Cy.out _ HBR.out
                      go_wp2_with fail
                      have cW := HQ.out _ HBR.out
                      rw [h1] at cW
                      refine cW.mono ?_
                      rintro e wq ⟨rfl, hbq⟩
                      have HBQ := Lib.hid (HBR.out.trans (hbq.mono HBR.out.size))
                      clear x0 y0 x1 y1 x2 y2 x3 y3 x4 y4 x5 y5 x6 y6 x7 y7 x8 y8 x9 y9 hbq cW
                      obtain ⟨x0, x1, x2, x3, x4, x5, x6, x7, x8, x9⟩ := Cx.out _ HBQ.out
                      obtain ⟨y0, y1, y2, y3, y4, y5, y6, y7, y8, y9⟩ := Cy.out _ HBQ.out
                      clear x6 y6 x7 y7
                      go_upto_region 3 with fail
                      try simp only [List.append, List.cons_append, List.nil_append]
                      go_wp2_with fail
                      go_ret
                      exact ⟨rfl, HB.out.trans (HBQ.out.mono HB.out.size)⟩
end Go.Proofs.Ytngimbfojccikaa
