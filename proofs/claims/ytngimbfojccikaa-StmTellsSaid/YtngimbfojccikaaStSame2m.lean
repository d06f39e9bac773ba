/- stm.thread and stm.rec: printed by st_same.py. -/
import Derived.Test.YtngimbfojccikaaStSamem
namespace Go.Proofs.Ytngimbfojccikaa
set_option linter.unusedSimpArgs false
open Go Go.RowKit
set_option linter.unusedVariables false

def txEq (x y : Tx) : Bool := (x.st == y.st) && ((x.tx == y.tx) && ((x.try_ == y.try_) && ((x.pc == y.pc) && ((x.rv == y.rv) && ((x.wv == y.wv) && ((x.sum == y.sum) && ((x.i == y.i) && ((x.fr == y.fr) && (eqL prEq x.R y.R && (eqL prEq x.W y.W))))))))))
set_option maxRecDepth 100000 in
set_option maxHeartbeats 16000000 in
theorem thread_any (x y : Tx) (w : World) (hx : Sl w 2 (.slice x.rA x.R.length x.rc) x.R.length (x.R.flatMap encPr) ∧ Sl w 2 (.slice x.wA x.W.length x.wc) x.W.length (x.W.flatMap encPr)) (hy : Sl w 2 (.slice y.rA y.R.length y.rc) y.R.length (y.R.flatMap encPr) ∧ Sl w 2 (.slice y.wA y.W.length y.wc) y.W.length (y.W.flatMap encPr)) :
    Calls Try.prog 37 #[.agg (encTx x).toArray, .agg (encTx y).toArray] w fun e w' => e = .returned (.bool (txEq x y)) ∧ Below w.heap.size w w' := by
  have kX := Blk.new w 46 (encTx x).toArray
  have bX : Below w.heap.size w (w.alloc (.cells (encTx x).toArray 46)) := (Below.refl _ w).alloc (Nat.le_refl _) _
  have kY := Blk.new (w.alloc (.cells (encTx x).toArray 46)) 46 (encTx y).toArray
  have kX := kX.keep (show Below _ _ ((w.alloc (.cells (encTx x).toArray 46)).alloc (.cells (encTx y).toArray 46)) from (Below.refl _ _).alloc (Nat.le_refl _) _)
  have bY : Below w.heap.size w ((w.alloc (.cells (encTx x).toArray 46)).alloc (.cells (encTx y).toArray 46)) := bX.alloc (by simp) _
  have hb0 : (w.alloc (.cells (encTx x).toArray 46)).heap.size = w.heap.size + 1 := by simp
  rw [hb0] at kY
  obtain ⟨w2, hw2⟩ : ∃ z, (w.alloc (.cells (encTx x).toArray 46)).alloc (.cells (encTx y).toArray 46) = z := ⟨_, rfl⟩
  rw [hw2] at kX kY bY
  have HW := Lib.hid hw2
  have HB := Lib.hid bY
  have x0 : w2.cell? ⟨w.heap.size, 0, none⟩ = some (.int .i64 x.st) := by rw [kX.cell]; rfl
  have x1 : w2.cell? ⟨w.heap.size, 1, none⟩ = some (.int .i64 x.tx) := by rw [kX.cell]; rfl
  have x2 : w2.cell? ⟨w.heap.size, 2, none⟩ = some (.int .i64 x.try_) := by rw [kX.cell]; rfl
  have x3 : w2.cell? ⟨w.heap.size, 3, none⟩ = some (.int .i64 x.pc) := by rw [kX.cell]; rfl
  have x4 : w2.cell? ⟨w.heap.size, 4, none⟩ = some (.int .i64 x.rv) := by rw [kX.cell]; rfl
  have x5 : w2.cell? ⟨w.heap.size, 5, none⟩ = some (.int .i64 x.wv) := by rw [kX.cell]; rfl
  have x6 : w2.cell? ⟨w.heap.size, 6, none⟩ = some (.int .i64 x.sum) := by rw [kX.cell]; rfl
  have x7 : w2.cell? ⟨w.heap.size, 7, none⟩ = some (.slice x.rA x.R.length x.rc) := by rw [kX.cell]; rfl
  have x8 : w2.cell? ⟨w.heap.size, 8, none⟩ = some (.slice x.wA x.W.length x.wc) := by rw [kX.cell]; rfl
  have x9 : w2.cell? ⟨w.heap.size, 9, none⟩ = some (.int .i64 x.i) := by rw [kX.cell]; rfl
  have x10 : w2.cell? ⟨w.heap.size, 10, none⟩ = some (.int .i64 x.fr) := by rw [kX.cell]; rfl
  have y0 : w2.cell? ⟨w.heap.size + 1, 0, none⟩ = some (.int .i64 y.st) := by rw [kY.cell]; rfl
  have y1 : w2.cell? ⟨w.heap.size + 1, 1, none⟩ = some (.int .i64 y.tx) := by rw [kY.cell]; rfl
  have y2 : w2.cell? ⟨w.heap.size + 1, 2, none⟩ = some (.int .i64 y.try_) := by rw [kY.cell]; rfl
  have y3 : w2.cell? ⟨w.heap.size + 1, 3, none⟩ = some (.int .i64 y.pc) := by rw [kY.cell]; rfl
  have y4 : w2.cell? ⟨w.heap.size + 1, 4, none⟩ = some (.int .i64 y.rv) := by rw [kY.cell]; rfl
  have y5 : w2.cell? ⟨w.heap.size + 1, 5, none⟩ = some (.int .i64 y.wv) := by rw [kY.cell]; rfl
  have y6 : w2.cell? ⟨w.heap.size + 1, 6, none⟩ = some (.int .i64 y.sum) := by rw [kY.cell]; rfl
  have y7 : w2.cell? ⟨w.heap.size + 1, 7, none⟩ = some (.slice y.rA y.R.length y.rc) := by rw [kY.cell]; rfl
  have y8 : w2.cell? ⟨w.heap.size + 1, 8, none⟩ = some (.slice y.wA y.W.length y.wc) := by rw [kY.cell]; rfl
  have y9 : w2.cell? ⟨w.heap.size + 1, 9, none⟩ = some (.int .i64 y.i) := by rw [kY.cell]; rfl
  have y10 : w2.cell? ⟨w.heap.size + 1, 10, none⟩ = some (.int .i64 y.fr) := by rw [kY.cell]; rfl
  have eR := fun W hb => equal_pair _ _ x.R y.R W ((hx.1.below (HB.out)).below (show Below w2.heap.size w2 W from hb)) ((hy.1.below HB.out).below hb)
  have eW := fun W hb => equal_pair _ _ x.W y.W W ((hx.2.below (HB.out)).below (show Below w2.heap.size w2 W from hb)) ((hy.2.below HB.out).below hb)
  have HR := Lib.hid eR
  have HQ := Lib.hid eW
  have HLx : w.heap.size < w2.heap.size := kX.lt
  have HLy : w.heap.size + 1 < w2.heap.size := kY.lt
  have hSp : ∀ b, txEq x y = b → Hid (txEq x y = b) := fun b h => h
  unfold txEq at hSp
  have hG : ∀ b, Hid (((x.st == y.st) && ((x.tx == y.tx) && ((x.try_ == y.try_) && ((x.pc == y.pc) && ((x.rv == y.rv) && ((x.wv == y.wv) && ((x.sum == y.sum) && ((x.i == y.i) && ((x.fr == y.fr) && (eqL prEq x.R y.R && (eqL prEq x.W y.W))))))))))) = b) → txEq x y = b := fun b h => h.out
  clear hSp kX kY hw2 bY bX eR eW hx hy hb0
  have HG := Lib.hid hG
  clear hG
  simp only [encTx] at HW ⊢
  cases h0 : (x.st == y.st) with
  | false =>
    rw [HG.out false (by show _ = _; simp only [h0, Bool.true_and, Bool.and_true, Bool.false_and, Bool.and_self])]
    clear HG
    go_enter Try.func37, Try.ntmps37
    go_wp2_with fail
    rw [HW.out]
    go_wp2_with fail
    go_ret
    exact ⟨rfl, HB.out⟩
  | true =>
    cases h1 : (x.tx == y.tx) with
    | false =>
      rw [HG.out false (by show _ = _; simp only [h0, h1, Bool.true_and, Bool.and_true, Bool.false_and, Bool.and_self])]
      clear HG
      go_enter Try.func37, Try.ntmps37
      go_wp2_with fail
      rw [HW.out]
      go_wp2_with fail
      go_ret
      exact ⟨rfl, HB.out⟩
    | true =>
      cases h2 : (x.try_ == y.try_) with
      | false =>
        rw [HG.out false (by show _ = _; simp only [h0, h1, h2, Bool.true_and, Bool.and_true, Bool.false_and, Bool.and_self])]
        clear HG
        go_enter Try.func37, Try.ntmps37
        go_wp2_with fail
        rw [HW.out]
        go_wp2_with fail
        go_ret
        exact ⟨rfl, HB.out⟩
      | true =>
        cases h3 : (x.pc == y.pc) with
        | false =>
          rw [HG.out false (by show _ = _; simp only [h0, h1, h2, h3, Bool.true_and, Bool.and_true, Bool.false_and, Bool.and_self])]
          clear HG
          go_enter Try.func37, Try.ntmps37
          go_wp2_with fail
          rw [HW.out]
          go_wp2_with fail
          go_ret
          exact ⟨rfl, HB.out⟩
        | true =>
          cases h4 : (x.rv == y.rv) with
          | false =>
            rw [HG.out false (by show _ = _; simp only [h0, h1, h2, h3, h4, Bool.true_and, Bool.and_true, Bool.false_and, Bool.and_self])]
            clear HG
            go_enter Try.func37, Try.ntmps37
            go_wp2_with fail
            rw [HW.out]
            go_wp2_with fail
            go_ret
            exact ⟨rfl, HB.out⟩
          | true =>
            cases h5 : (x.wv == y.wv) with
            | false =>
              rw [HG.out false (by show _ = _; simp only [h0, h1, h2, h3, h4, h5, Bool.true_and, Bool.and_true, Bool.false_and, Bool.and_self])]
              clear HG
              go_enter Try.func37, Try.ntmps37
              go_wp2_with fail
              rw [HW.out]
              go_wp2_with fail
              go_ret
              exact ⟨rfl, HB.out⟩
            | true =>
              cases h6 : (x.sum == y.sum) with
              | false =>
                rw [HG.out false (by show _ = _; simp only [h0, h1, h2, h3, h4, h5, h6, Bool.true_and, Bool.and_true, Bool.false_and, Bool.and_self])]
                clear HG
                go_enter Try.func37, Try.ntmps37
                go_wp2_with fail
                rw [HW.out]
                go_wp2_with fail
                go_ret
                exact ⟨rfl, HB.out⟩
              | true =>
                cases h7 : (x.i == y.i) with
                | false =>
                  rw [HG.out false (by show _ = _; simp only [h0, h1, h2, h3, h4, h5, h6, h7, Bool.true_and, Bool.and_true, Bool.false_and, Bool.and_self])]
                  clear HG
                  go_enter Try.func37, Try.ntmps37
                  go_wp2_with fail
                  rw [HW.out]
                  go_wp2_with fail
                  go_ret
                  exact ⟨rfl, HB.out⟩
                | true =>
                  cases h8 : (x.fr == y.fr) with
                  | false =>
                    rw [HG.out false (by show _ = _; simp only [h0, h1, h2, h3, h4, h5, h6, h7, h8, Bool.true_and, Bool.and_true, Bool.false_and, Bool.and_self])]
                    clear HG
                    go_enter Try.func37, Try.ntmps37
                    go_wp2_with fail
                    rw [HW.out]
                    go_wp2_with fail
                    go_ret
                    exact ⟨rfl, HB.out⟩
                  | true =>
                    cases h9 : eqL prEq x.R y.R with
                    | false =>
                      rw [HG.out false (by show _ = _; simp only [h0, h1, h2, h3, h4, h5, h6, h7, h8, h9, Bool.true_and, Bool.and_true, Bool.false_and, Bool.and_self])]
                      clear HG
                      go_enter Try.func37, Try.ntmps37
                      go_wp2_with fail
                      rw [HW.out]
                      go_wp2_with fail
                      have cR := HR.out _ (Below.refl _ _)
                      rw [h9] at cR
                      refine cR.mono ?_
                      rintro e wr ⟨rfl, hbr⟩
                      replace x8 := (hbr.cell (p := ⟨w.heap.size, 8, none⟩) HLx).trans x8
                      replace y8 := (hbr.cell (p := ⟨w.heap.size + 1, 8, none⟩) HLy).trans y8
                      go_wp2_with fail
                      go_ret
                      exact ⟨rfl, HB.out.trans (hbr.mono HB.out.size)⟩
                    | true =>
                      cases h10 : eqL prEq x.W y.W with
                      | false =>
                        rw [HG.out false (by show _ = _; simp only [h0, h1, h2, h3, h4, h5, h6, h7, h8, h9, h10, Bool.true_and, Bool.and_true, Bool.false_and, Bool.and_self])]
                        clear HG
                        go_enter Try.func37, Try.ntmps37
                        go_wp2_with fail
                        rw [HW.out]
                        go_wp2_with fail
                        have cR := HR.out _ (Below.refl _ _)
                        rw [h9] at cR
                        refine cR.mono ?_
                        rintro e wr ⟨rfl, hbr⟩
                        replace x8 := (hbr.cell (p := ⟨w.heap.size, 8, none⟩) HLx).trans x8
                        replace y8 := (hbr.cell (p := ⟨w.heap.size + 1, 8, none⟩) HLy).trans y8
                        go_wp2_with fail
                        have cW := HQ.out _ hbr
                        rw [h10] at cW
                        refine cW.mono ?_
                        rintro e wq ⟨rfl, hbq⟩
                        go_wp2_with fail
                        go_ret
                        exact ⟨rfl, (HB.out.trans (hbr.mono HB.out.size)).trans (hbq.mono (Nat.le_trans HB.out.size hbr.size))⟩
                      | true =>
                        rw [HG.out true (by show _ = _; simp only [h0, h1, h2, h3, h4, h5, h6, h7, h8, h9, h10, Bool.true_and, Bool.and_true, Bool.false_and, Bool.and_self])]
                        clear HG
                        go_enter Try.func37, Try.ntmps37
                        go_wp2_with fail
                        rw [HW.out]
                        go_wp2_with fail
                        have cR := HR.out _ (Below.refl _ _)
                        rw [h9] at cR
                        refine cR.mono ?_
                        rintro e wr ⟨rfl, hbr⟩
                        replace x8 := (hbr.cell (p := ⟨w.heap.size, 8, none⟩) HLx).trans x8
                        replace y8 := (hbr.cell (p := ⟨w.heap.size + 1, 8, none⟩) HLy).trans y8
                        go_wp2_with fail
                        have cW := HQ.out _ hbr
                        rw [h10] at cW
                        refine cW.mono ?_
                        rintro e wq ⟨rfl, hbq⟩
                        go_wp2_with fail
                        go_ret
                        exact ⟨rfl, (HB.out.trans (hbr.mono HB.out.size)).trans (hbq.mono (Nat.le_trans HB.out.size hbr.size))⟩
def rxEq (x y : Rx) : Bool := (x.who == y.who) && ((x.tx == y.tx) && ((x.try_ == y.try_) && ((x.en == y.en) && ((x.rv == y.rv) && ((x.wv == y.wv) && ((x.fr == y.fr) && ((x.to_ == y.to_) && (eqL prEq x.R y.R && (eqL prEq x.W y.W)))))))))
set_option maxRecDepth 100000 in
set_option maxHeartbeats 16000000 in
theorem rec_any (x y : Rx) (w : World) (hx : Sl w 2 (.slice x.rA x.R.length x.rc) x.R.length (x.R.flatMap encPr) ∧ Sl w 2 (.slice x.wA x.W.length x.wc) x.W.length (x.W.flatMap encPr)) (hy : Sl w 2 (.slice y.rA y.R.length y.rc) y.R.length (y.R.flatMap encPr) ∧ Sl w 2 (.slice y.wA y.W.length y.wc) y.W.length (y.W.flatMap encPr)) :
    Calls Try.prog 39 #[.agg (encRx x).toArray, .agg (encRx y).toArray] w fun e w' => e = .returned (.bool (rxEq x y)) ∧ Below w.heap.size w w' := by
  have kX := Blk.new w 50 (encRx x).toArray
  have bX : Below w.heap.size w (w.alloc (.cells (encRx x).toArray 50)) := (Below.refl _ w).alloc (Nat.le_refl _) _
  have kY := Blk.new (w.alloc (.cells (encRx x).toArray 50)) 50 (encRx y).toArray
  have kX := kX.keep (show Below _ _ ((w.alloc (.cells (encRx x).toArray 50)).alloc (.cells (encRx y).toArray 50)) from (Below.refl _ _).alloc (Nat.le_refl _) _)
  have bY : Below w.heap.size w ((w.alloc (.cells (encRx x).toArray 50)).alloc (.cells (encRx y).toArray 50)) := bX.alloc (by simp) _
  have hb0 : (w.alloc (.cells (encRx x).toArray 50)).heap.size = w.heap.size + 1 := by simp
  rw [hb0] at kY
  obtain ⟨w2, hw2⟩ : ∃ z, (w.alloc (.cells (encRx x).toArray 50)).alloc (.cells (encRx y).toArray 50) = z := ⟨_, rfl⟩
  rw [hw2] at kX kY bY
  have HW := Lib.hid hw2
  have HB := Lib.hid bY
  have x0 : w2.cell? ⟨w.heap.size, 0, none⟩ = some (.int .i64 x.who) := by rw [kX.cell]; rfl
  have x1 : w2.cell? ⟨w.heap.size, 1, none⟩ = some (.int .i64 x.tx) := by rw [kX.cell]; rfl
  have x2 : w2.cell? ⟨w.heap.size, 2, none⟩ = some (.int .i64 x.try_) := by rw [kX.cell]; rfl
  have x3 : w2.cell? ⟨w.heap.size, 3, none⟩ = some (.int .i64 x.en) := by rw [kX.cell]; rfl
  have x4 : w2.cell? ⟨w.heap.size, 4, none⟩ = some (.int .i64 x.rv) := by rw [kX.cell]; rfl
  have x5 : w2.cell? ⟨w.heap.size, 5, none⟩ = some (.int .i64 x.wv) := by rw [kX.cell]; rfl
  have x6 : w2.cell? ⟨w.heap.size, 6, none⟩ = some (.slice x.rA x.R.length x.rc) := by rw [kX.cell]; rfl
  have x7 : w2.cell? ⟨w.heap.size, 7, none⟩ = some (.slice x.wA x.W.length x.wc) := by rw [kX.cell]; rfl
  have x8 : w2.cell? ⟨w.heap.size, 8, none⟩ = some (.int .i64 x.fr) := by rw [kX.cell]; rfl
  have x9 : w2.cell? ⟨w.heap.size, 9, none⟩ = some (.int .i64 x.to_) := by rw [kX.cell]; rfl
  have y0 : w2.cell? ⟨w.heap.size + 1, 0, none⟩ = some (.int .i64 y.who) := by rw [kY.cell]; rfl
  have y1 : w2.cell? ⟨w.heap.size + 1, 1, none⟩ = some (.int .i64 y.tx) := by rw [kY.cell]; rfl
  have y2 : w2.cell? ⟨w.heap.size + 1, 2, none⟩ = some (.int .i64 y.try_) := by rw [kY.cell]; rfl
  have y3 : w2.cell? ⟨w.heap.size + 1, 3, none⟩ = some (.int .i64 y.en) := by rw [kY.cell]; rfl
  have y4 : w2.cell? ⟨w.heap.size + 1, 4, none⟩ = some (.int .i64 y.rv) := by rw [kY.cell]; rfl
  have y5 : w2.cell? ⟨w.heap.size + 1, 5, none⟩ = some (.int .i64 y.wv) := by rw [kY.cell]; rfl
  have y6 : w2.cell? ⟨w.heap.size + 1, 6, none⟩ = some (.slice y.rA y.R.length y.rc) := by rw [kY.cell]; rfl
  have y7 : w2.cell? ⟨w.heap.size + 1, 7, none⟩ = some (.slice y.wA y.W.length y.wc) := by rw [kY.cell]; rfl
  have y8 : w2.cell? ⟨w.heap.size + 1, 8, none⟩ = some (.int .i64 y.fr) := by rw [kY.cell]; rfl
  have y9 : w2.cell? ⟨w.heap.size + 1, 9, none⟩ = some (.int .i64 y.to_) := by rw [kY.cell]; rfl
  have eR := fun W hb => equal_pair _ _ x.R y.R W ((hx.1.below (HB.out)).below (show Below w2.heap.size w2 W from hb)) ((hy.1.below HB.out).below hb)
  have eW := fun W hb => equal_pair _ _ x.W y.W W ((hx.2.below (HB.out)).below (show Below w2.heap.size w2 W from hb)) ((hy.2.below HB.out).below hb)
  have HR := Lib.hid eR
  have HQ := Lib.hid eW
  have HLx : w.heap.size < w2.heap.size := kX.lt
  have HLy : w.heap.size + 1 < w2.heap.size := kY.lt
  have hSp : ∀ b, rxEq x y = b → Hid (rxEq x y = b) := fun b h => h
  unfold rxEq at hSp
  have hG : ∀ b, Hid (((x.who == y.who) && ((x.tx == y.tx) && ((x.try_ == y.try_) && ((x.en == y.en) && ((x.rv == y.rv) && ((x.wv == y.wv) && ((x.fr == y.fr) && ((x.to_ == y.to_) && (eqL prEq x.R y.R && (eqL prEq x.W y.W)))))))))) = b) → rxEq x y = b := fun b h => h.out
  clear hSp kX kY hw2 bY bX eR eW hx hy hb0
  have HG := Lib.hid hG
  clear hG
  simp only [encRx] at HW ⊢
  cases h0 : (x.who == y.who) with
  | false =>
    rw [HG.out false (by show _ = _; simp only [h0, Bool.true_and, Bool.and_true, Bool.false_and, Bool.and_self])]
    clear HG
    go_enter Try.func39, Try.ntmps39
    go_wp2_with fail
    rw [HW.out]
    go_wp2_with fail
    go_ret
    exact ⟨rfl, HB.out⟩
  | true =>
    cases h1 : (x.tx == y.tx) with
    | false =>
      rw [HG.out false (by show _ = _; simp only [h0, h1, Bool.true_and, Bool.and_true, Bool.false_and, Bool.and_self])]
      clear HG
      go_enter Try.func39, Try.ntmps39
      go_wp2_with fail
      rw [HW.out]
      go_wp2_with fail
      go_ret
      exact ⟨rfl, HB.out⟩
    | true =>
      cases h2 : (x.try_ == y.try_) with
      | false =>
        rw [HG.out false (by show _ = _; simp only [h0, h1, h2, Bool.true_and, Bool.and_true, Bool.false_and, Bool.and_self])]
        clear HG
        go_enter Try.func39, Try.ntmps39
        go_wp2_with fail
        rw [HW.out]
        go_wp2_with fail
        go_ret
        exact ⟨rfl, HB.out⟩
      | true =>
        cases h3 : (x.en == y.en) with
        | false =>
          rw [HG.out false (by show _ = _; simp only [h0, h1, h2, h3, Bool.true_and, Bool.and_true, Bool.false_and, Bool.and_self])]
          clear HG
          go_enter Try.func39, Try.ntmps39
          go_wp2_with fail
          rw [HW.out]
          go_wp2_with fail
          go_ret
          exact ⟨rfl, HB.out⟩
        | true =>
          cases h4 : (x.rv == y.rv) with
          | false =>
            rw [HG.out false (by show _ = _; simp only [h0, h1, h2, h3, h4, Bool.true_and, Bool.and_true, Bool.false_and, Bool.and_self])]
            clear HG
            go_enter Try.func39, Try.ntmps39
            go_wp2_with fail
            rw [HW.out]
            go_wp2_with fail
            go_ret
            exact ⟨rfl, HB.out⟩
          | true =>
            cases h5 : (x.wv == y.wv) with
            | false =>
              rw [HG.out false (by show _ = _; simp only [h0, h1, h2, h3, h4, h5, Bool.true_and, Bool.and_true, Bool.false_and, Bool.and_self])]
              clear HG
              go_enter Try.func39, Try.ntmps39
              go_wp2_with fail
              rw [HW.out]
              go_wp2_with fail
              go_ret
              exact ⟨rfl, HB.out⟩
            | true =>
              cases h6 : (x.fr == y.fr) with
              | false =>
                rw [HG.out false (by show _ = _; simp only [h0, h1, h2, h3, h4, h5, h6, Bool.true_and, Bool.and_true, Bool.false_and, Bool.and_self])]
                clear HG
                go_enter Try.func39, Try.ntmps39
                go_wp2_with fail
                rw [HW.out]
                go_wp2_with fail
                go_ret
                exact ⟨rfl, HB.out⟩
              | true =>
                cases h7 : (x.to_ == y.to_) with
                | false =>
                  rw [HG.out false (by show _ = _; simp only [h0, h1, h2, h3, h4, h5, h6, h7, Bool.true_and, Bool.and_true, Bool.false_and, Bool.and_self])]
                  clear HG
                  go_enter Try.func39, Try.ntmps39
                  go_wp2_with fail
                  rw [HW.out]
                  go_wp2_with fail
                  go_ret
                  exact ⟨rfl, HB.out⟩
                | true =>
                  cases h8 : eqL prEq x.R y.R with
                  | false =>
                    rw [HG.out false (by show _ = _; simp only [h0, h1, h2, h3, h4, h5, h6, h7, h8, Bool.true_and, Bool.and_true, Bool.false_and, Bool.and_self])]
                    clear HG
                    go_enter Try.func39, Try.ntmps39
                    go_wp2_with fail
                    rw [HW.out]
                    go_wp2_with fail
                    have cR := HR.out _ (Below.refl _ _)
                    rw [h8] at cR
                    refine cR.mono ?_
                    rintro e wr ⟨rfl, hbr⟩
                    replace x7 := (hbr.cell (p := ⟨w.heap.size, 7, none⟩) HLx).trans x7
                    replace y7 := (hbr.cell (p := ⟨w.heap.size + 1, 7, none⟩) HLy).trans y7
                    go_wp2_with fail
                    go_ret
                    exact ⟨rfl, HB.out.trans (hbr.mono HB.out.size)⟩
                  | true =>
                    cases h9 : eqL prEq x.W y.W with
                    | false =>
                      rw [HG.out false (by show _ = _; simp only [h0, h1, h2, h3, h4, h5, h6, h7, h8, h9, Bool.true_and, Bool.and_true, Bool.false_and, Bool.and_self])]
                      clear HG
                      go_enter Try.func39, Try.ntmps39
                      go_wp2_with fail
                      rw [HW.out]
                      go_wp2_with fail
                      have cR := HR.out _ (Below.refl _ _)
                      rw [h8] at cR
                      refine cR.mono ?_
                      rintro e wr ⟨rfl, hbr⟩
                      replace x7 := (hbr.cell (p := ⟨w.heap.size, 7, none⟩) HLx).trans x7
                      replace y7 := (hbr.cell (p := ⟨w.heap.size + 1, 7, none⟩) HLy).trans y7
                      go_wp2_with fail
                      have cW := HQ.out _ hbr
                      rw [h9] at cW
                      refine cW.mono ?_
                      rintro e wq ⟨rfl, hbq⟩
                      go_wp2_with fail
                      go_ret
                      exact ⟨rfl, (HB.out.trans (hbr.mono HB.out.size)).trans (hbq.mono (Nat.le_trans HB.out.size hbr.size))⟩
                    | true =>
                      rw [HG.out true (by show _ = _; simp only [h0, h1, h2, h3, h4, h5, h6, h7, h8, h9, Bool.true_and, Bool.and_true, Bool.false_and, Bool.and_self])]
                      clear HG
                      go_enter Try.func39, Try.ntmps39
                      go_wp2_with fail
                      rw [HW.out]
                      go_wp2_with fail
                      have cR := HR.out _ (Below.refl _ _)
                      rw [h8] at cR
                      refine cR.mono ?_
                      rintro e wr ⟨rfl, hbr⟩
                      replace x7 := (hbr.cell (p := ⟨w.heap.size, 7, none⟩) HLx).trans x7
                      replace y7 := (hbr.cell (p := ⟨w.heap.size + 1, 7, none⟩) HLy).trans y7
                      go_wp2_with fail
                      have cW := HQ.out _ hbr
                      rw [h9] at cW
                      refine cW.mono ?_
                      rintro e wq ⟨rfl, hbq⟩
                      go_wp2_with fail
                      go_ret
                      exact ⟨rfl, (HB.out.trans (hbr.mono HB.out.size)).trans (hbq.mono (Nat.le_trans HB.out.size hbr.size))⟩
end Go.Proofs.Ytngimbfojccikaa
