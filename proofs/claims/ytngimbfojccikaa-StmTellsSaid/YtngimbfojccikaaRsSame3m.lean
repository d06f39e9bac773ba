/- foliateref19.Same: printed by rs_same3.py. -/
import Derived.Test.YtngimbfojccikaaRsSame2m
import Derived.Test.YtngimbfojccikaaStSame4m
import Derived.Test.YtngimbfojccikaaStmTellsO
import Derived.Test.YtngimbfojccikaaRsWordsm
import Derived.Deep.MidRow
import Derived.Deep.RegionHeld3
namespace Go.Proofs.Ytngimbfojccikaa
set_option linter.unusedSimpArgs false
open Go Go.RowKit
set_option linter.unusedVariables false
set_option maxRecDepth 100000

section
variable {P : Program}
theorem rload_mid {o : Oper} {a : Act} {w : World} {ty : TypeId} {x : Operand} (ho : o.op = .load ty x) {b f : Nat} (hx : a.eval x = .pointer (some ⟨b, f, none⟩)) {cs : List Value} {d : TypeDesc} (hc : w.rangeAt b f cs)
    (hu : P.underlying ty = some d) (hd : d.isRow = true) (hi : (P.info? ty).map (·.size) = some cs.length) : (execOp a.eval o).run P w = .ok (.value (.agg cs.toArray)) w := by
  unfold execOp
  simp only [ho, hx, Instr.loadAt, Instr.sureAddr, Sem.run_bind, Sem.run_pure, Result.andThen_ok, run_loadVar_mid w b f ty cs d hc hu hd hi]
end
theorem rthread_size : (Try.prog.info? 46).map (·.size) = some 11 := by kernel_rfl
theorem rrec_size : (Try.prog.info? 50).map (·.size) = some 10 := by kernel_rfl

theorem memEq_false {m n : Mm} (h : m.W.length ≠ n.W.length ∨ m.T.length ≠ n.T.length ∨ m.H.length ≠ n.H.length ∨ m.time ≠ n.time ∨ sameL m.now m.mx m.L n.now n.mx n.L = false ∨ eqL intEq m.W n.W = false ∨ eqR txEq m.T n.T = false ∨ eqR rxEq m.H n.H = false) : memEq m n = false := by
  cases he : memEq m n with
  | false => rfl
  | true =>
    unfold memEq at he
    simp only [Bool.and_eq_true, beq_iff_eq] at he
    obtain ⟨h1, h2, h3, h4, h5⟩ := he
    rcases h with h | h | h | h | h | h | h | h
    · exact absurd (eqL_len h1) h
    · exact absurd (eqR_len h3) h
    · exact absurd (eqR_len h4) h
    · exact absurd h5 h
    · rw [h] at h2; cases h2
    · rw [h] at h1; cases h1
    · rw [h] at h3; cases h3
    · rw [h] at h4; cases h4

set_option maxHeartbeats 16000000 in
theorem rSame_any (p q : Mv) (m n : Mm) (w : World) (hm : MemG w p m) (hn : MemG w q n) :
    Calls Try.prog 14 #[.agg (p.cells m).toArray, .agg (q.cells n).toArray] w fun e w' => e = .returned (.bool (memEq m n)) ∧ Below w.heap.size w w' := by
  obtain ⟨A0, c0, A3, c3, A4, c4, A5, c5⟩ := p
  obtain ⟨B0, d0, B3, d3, B4, d4, B5, d5⟩ := q
  obtain ⟨p, hp⟩ : ∃ p : Mv, p = ⟨A0, c0, A3, c3, A4, c4, A5, c5⟩ := ⟨_, rfl⟩
  obtain ⟨q, hq⟩ : ∃ p : Mv, p = ⟨B0, d0, B3, d3, B4, d4, B5, d5⟩ := ⟨_, rfl⟩
  rw [← hp, ← hq]
  rw [← hp] at hm
  rw [← hq] at hn
  have kX := Blk.new w 34 (p.cells m).toArray
  have bX : Below w.heap.size w (w.alloc (.cells (p.cells m).toArray 34)) := (Below.refl _ w).alloc (Nat.le_refl _) _
  have kY := Blk.new (w.alloc (.cells (p.cells m).toArray 34)) 34 (q.cells n).toArray
  have kX := kX.keep (show Below _ _ ((w.alloc (.cells (p.cells m).toArray 34)).alloc (.cells (q.cells n).toArray 34)) from (Below.refl _ _).alloc (Nat.le_refl _) _)
  have bY : Below w.heap.size w ((w.alloc (.cells (p.cells m).toArray 34)).alloc (.cells (q.cells n).toArray 34)) := bX.alloc (by simp) _
  have hb0 : (w.alloc (.cells (p.cells m).toArray 34)).heap.size = w.heap.size + 1 := by simp
  rw [hb0] at kY
  obtain ⟨w2, hw2⟩ : ∃ z, (w.alloc (.cells (p.cells m).toArray 34)).alloc (.cells (q.cells n).toArray 34) = z := ⟨_, rfl⟩
  rw [hw2] at kX kY bY
  subst hp hq
  have HW := Lib.hid hw2
  have HB := Lib.hid bY
  have HC := Lib.hid (fun W (hb : Below w2.heap.size w2 W) => (show W.cell? ⟨w.heap.size, 0, none⟩ = some (.slice A0 m.W.length c0) ∧ W.cell? ⟨w.heap.size, 1, none⟩ = some (.int .i64 m.now) ∧ W.cell? ⟨w.heap.size, 2, none⟩ = some (.int .i64 m.mx) ∧ W.cell? ⟨w.heap.size, 3, none⟩ = some (.slice A3 m.L.length c3) ∧ W.cell? ⟨w.heap.size, 4, none⟩ = some (.slice A4 m.T.length c4) ∧ W.cell? ⟨w.heap.size, 5, none⟩ = some (.slice A5 m.H.length c5) ∧ W.cell? ⟨w.heap.size, 6, none⟩ = some (.int .i64 m.time) ∧ W.cell? ⟨w.heap.size + 1, 0, none⟩ = some (.slice B0 n.W.length d0) ∧ W.cell? ⟨w.heap.size + 1, 1, none⟩ = some (.int .i64 n.now) ∧ W.cell? ⟨w.heap.size + 1, 2, none⟩ = some (.int .i64 n.mx) ∧ W.cell? ⟨w.heap.size + 1, 3, none⟩ = some (.slice B3 n.L.length d3) ∧ W.cell? ⟨w.heap.size + 1, 4, none⟩ = some (.slice B4 n.T.length d4) ∧ W.cell? ⟨w.heap.size + 1, 5, none⟩ = some (.slice B5 n.H.length d5) ∧ W.cell? ⟨w.heap.size + 1, 6, none⟩ = some (.int .i64 n.time) from ⟨(by rw [(kX.keep hb).cell]; rfl), (by rw [(kX.keep hb).cell]; rfl), (by rw [(kX.keep hb).cell]; rfl), (by rw [(kX.keep hb).cell]; rfl), (by rw [(kX.keep hb).cell]; rfl), (by rw [(kX.keep hb).cell]; rfl), (by rw [(kX.keep hb).cell]; rfl), (by rw [(kY.keep hb).cell]; rfl), (by rw [(kY.keep hb).cell]; rfl), (by rw [(kY.keep hb).cell]; rfl), (by rw [(kY.keep hb).cell]; rfl), (by rw [(kY.keep hb).cell]; rfl), (by rw [(kY.keep hb).cell]; rfl), (by rw [(kY.keep hb).cell]; rfl)⟩))
  have E1 := Lib.hid (fun W (hb : Below w2.heap.size w2 W) => RSame_any _ _ m.now m.mx n.now n.mx m.L n.L W ⟨_, rfl, (hm.L.below HB.out).below hb⟩ ⟨_, rfl, (hn.L.below HB.out).below hb⟩)
  have HX0 := Lib.hid (fun h => Sl.pos encI encI_len (hm.W.below HB.out) h)
  have HY0 := Lib.hid (fun h => Sl.pos encI encI_len (hn.W.below HB.out) h)
  have HX4 := Lib.hid (fun h => Sl.pos encTx encTx_len (hm.T.below HB.out) h)
  have HY4 := Lib.hid (fun h => Sl.pos encTx encTx_len (hn.T.below HB.out) h)
  have HX5 := Lib.hid (fun h => Sl.pos encRx encRx_len (hm.H.below HB.out) h)
  have HY5 := Lib.hid (fun h => Sl.pos encRx encRx_len (hn.H.below HB.out) h)
  have HT := Lib.hid (fun W (hb : Below w2.heap.size w2 W) (i : Nat) (h1 : i < m.T.length) (h2 : i < n.T.length) => rthread_any m.T[i] n.T[i] W ⟨((hm.ts _ (List.getElem_mem h1)).1.below HB.out).below hb, ((hm.ts _ (List.getElem_mem h1)).2.below HB.out).below hb⟩ ⟨((hn.ts _ (List.getElem_mem h2)).1.below HB.out).below hb, ((hn.ts _ (List.getElem_mem h2)).2.below HB.out).below hb⟩)
  have HR := Lib.hid (fun W (hb : Below w2.heap.size w2 W) (i : Nat) (h1 : i < m.H.length) (h2 : i < n.H.length) => rrec_any m.H[i] n.H[i] W ⟨((hm.hs _ (List.getElem_mem h1)).1.below HB.out).below hb, ((hm.hs _ (List.getElem_mem h1)).2.below HB.out).below hb⟩ ⟨((hn.hs _ (List.getElem_mem h2)).1.below HB.out).below hb, ((hn.hs _ (List.getElem_mem h2)).2.below HB.out).below hb⟩)
  obtain ⟨_, _, _, g6W, g7W⟩ := hm.W.form
  obtain ⟨_, _, _, g6T, g7T⟩ := hm.T.form
  obtain ⟨_, _, _, g6H, g7H⟩ := hm.H.form
  have HLE := Lib.hid (show m.W.length ≤ 9223372036854775807 ∧ m.T.length ≤ 9223372036854775807 ∧ m.H.length ≤ 9223372036854775807 from by unfold maxLen at *; omega)
  clear kX kY hw2 bY bX hm hn hb0 g6W g7W g6T g7T g6H g7H
  simp only [Mv.cells] at HW ⊢
  have HFF := Lib.hid (@memEq_false m n)
  cases hsl : sameL m.now m.mx m.L n.now n.mx n.L with
  | false =>
    rw [HFF.out (Or.inr (Or.inr (Or.inr (Or.inr (Or.inl hsl)))))]
    obtain ⟨nW, hnW⟩ : ∃ z, z = m.W.length := ⟨_, rfl⟩
    obtain ⟨kW, hkW⟩ : ∃ z, z = n.W.length := ⟨_, rfl⟩
    obtain ⟨nT, hnT⟩ : ∃ z, z = m.T.length := ⟨_, rfl⟩
    obtain ⟨kT, hkT⟩ : ∃ z, z = n.T.length := ⟨_, rfl⟩
    obtain ⟨nH, hnH⟩ : ∃ z, z = m.H.length := ⟨_, rfl⟩
    obtain ⟨kH, hkH⟩ : ∃ z, z = n.H.length := ⟨_, rfl⟩
    rw [← hnW, ← hnT, ← hnH, ← hkW, ← hkT, ← hkH] at HW HC
    rw [← hnW, ← hnT, ← hnH, ← hkW, ← hkT, ← hkH]
    clear hnW hnT hnH hkW hkT hkH HX0 HX4 HX5 HY0 HY4 HY5 HT HR HFF HLE
    go_enter Try.func14, Try.ntmps14
    go_wp2_with fail
    rw [HW.out]
    have hb0 := Below.refl w2.heap.size w2
    obtain ⟨x0, x1, x2, x3, x4, x5, x6, y0, y1, y2, y3, y4, y5, y6⟩ := HC.out _ hb0
    have c1 := E1.out _ hb0
    rw [hsl] at c1
    go_wp2_with fail
    refine c1.mono ?_
    rintro e w3 ⟨rfl, hr0⟩
    have hb1 := hb0.trans (hr0.mono hb0.size)
    clear x0 x1 x2 x3 x4 x5 x6 y0 y1 y2 y3 y4 y5 y6
    obtain ⟨x0, x1, x2, x3, x4, x5, x6, y0, y1, y2, y3, y4, y5, y6⟩ := HC.out _ hb1
    go_wp2_with fail
    go_ret
    exact ⟨rfl, HB.out.trans (hb1.mono HB.out.size)⟩
  | true =>
  by_cases h1 : m.W.length = n.W.length
  case neg =>
    have hne : ¬ (m.W.length = n.W.length) := h1
    clear h1
    rw [HFF.out (Or.inl hne)]
    obtain ⟨nW, hnW⟩ : ∃ z, z = m.W.length := ⟨_, rfl⟩
    obtain ⟨kW, hkW⟩ : ∃ z, z = n.W.length := ⟨_, rfl⟩
    obtain ⟨nT, hnT⟩ : ∃ z, z = m.T.length := ⟨_, rfl⟩
    obtain ⟨kT, hkT⟩ : ∃ z, z = n.T.length := ⟨_, rfl⟩
    obtain ⟨nH, hnH⟩ : ∃ z, z = m.H.length := ⟨_, rfl⟩
    obtain ⟨kH, hkH⟩ : ∃ z, z = n.H.length := ⟨_, rfl⟩
    rw [← hnW, ← hnT, ← hnH, ← hkW, ← hkT, ← hkH] at HW HC
    rw [← hnW, ← hnT, ← hnH, ← hkW, ← hkT, ← hkH]
    have q1 : ((nW : Int) != (kW : Int)) = true := by simp; omega
    clear hnW hnT hnH hkW hkT hkH HX0 HX4 HX5 HY0 HY4 HY5 HT HR HFF HLE hne
    go_enter Try.func14, Try.ntmps14
    go_wp2_with fail
    rw [HW.out]
    have hb0 := Below.refl w2.heap.size w2
    obtain ⟨x0, x1, x2, x3, x4, x5, x6, y0, y1, y2, y3, y4, y5, y6⟩ := HC.out _ hb0
    have c1 := E1.out _ hb0
    rw [hsl] at c1
    go_wp2_with fail
    refine c1.mono ?_
    rintro e w3 ⟨rfl, hr0⟩
    have hb1 := hb0.trans (hr0.mono hb0.size)
    clear x0 x1 x2 x3 x4 x5 x6 y0 y1 y2 y3 y4 y5 y6
    obtain ⟨x0, x1, x2, x3, x4, x5, x6, y0, y1, y2, y3, y4, y5, y6⟩ := HC.out _ hb1
    go_wp2_with fail
    go_ret
    exact ⟨rfl, HB.out.trans (hb1.mono HB.out.size)⟩
  by_cases h2 : m.T.length = n.T.length
  case neg =>
    have hne : ¬ (m.T.length = n.T.length) := h2
    clear h2
    rw [HFF.out (Or.inr (Or.inl hne))]
    obtain ⟨nW, hnW⟩ : ∃ z, z = m.W.length := ⟨_, rfl⟩
    obtain ⟨kW, hkW⟩ : ∃ z, z = n.W.length := ⟨_, rfl⟩
    obtain ⟨nT, hnT⟩ : ∃ z, z = m.T.length := ⟨_, rfl⟩
    obtain ⟨kT, hkT⟩ : ∃ z, z = n.T.length := ⟨_, rfl⟩
    obtain ⟨nH, hnH⟩ : ∃ z, z = m.H.length := ⟨_, rfl⟩
    obtain ⟨kH, hkH⟩ : ∃ z, z = n.H.length := ⟨_, rfl⟩
    rw [← hnW, ← hnT, ← hnH, ← hkW, ← hkT, ← hkH] at HW HC
    rw [← hnW, ← hnT, ← hnH, ← hkW, ← hkT, ← hkH]
    have q1 : ((nW : Int) != (kW : Int)) = false := by simp; omega
    have q2 : ((nT : Int) != (kT : Int)) = true := by simp; omega
    clear hnW hnT hnH hkW hkT hkH HX0 HX4 HX5 HY0 HY4 HY5 HT HR HFF HLE h1 hne
    go_enter Try.func14, Try.ntmps14
    go_wp2_with fail
    rw [HW.out]
    have hb0 := Below.refl w2.heap.size w2
    obtain ⟨x0, x1, x2, x3, x4, x5, x6, y0, y1, y2, y3, y4, y5, y6⟩ := HC.out _ hb0
    have c1 := E1.out _ hb0
    rw [hsl] at c1
    go_wp2_with fail
    refine c1.mono ?_
    rintro e w3 ⟨rfl, hr0⟩
    have hb1 := hb0.trans (hr0.mono hb0.size)
    clear x0 x1 x2 x3 x4 x5 x6 y0 y1 y2 y3 y4 y5 y6
    obtain ⟨x0, x1, x2, x3, x4, x5, x6, y0, y1, y2, y3, y4, y5, y6⟩ := HC.out _ hb1
    go_wp2_with fail
    go_ret
    exact ⟨rfl, HB.out.trans (hb1.mono HB.out.size)⟩
  by_cases h3 : m.H.length = n.H.length
  case neg =>
    have hne : ¬ (m.H.length = n.H.length) := h3
    clear h3
    rw [HFF.out (Or.inr (Or.inr (Or.inl hne)))]
    obtain ⟨nW, hnW⟩ : ∃ z, z = m.W.length := ⟨_, rfl⟩
    obtain ⟨kW, hkW⟩ : ∃ z, z = n.W.length := ⟨_, rfl⟩
    obtain ⟨nT, hnT⟩ : ∃ z, z = m.T.length := ⟨_, rfl⟩
    obtain ⟨kT, hkT⟩ : ∃ z, z = n.T.length := ⟨_, rfl⟩
    obtain ⟨nH, hnH⟩ : ∃ z, z = m.H.length := ⟨_, rfl⟩
    obtain ⟨kH, hkH⟩ : ∃ z, z = n.H.length := ⟨_, rfl⟩
    rw [← hnW, ← hnT, ← hnH, ← hkW, ← hkT, ← hkH] at HW HC
    rw [← hnW, ← hnT, ← hnH, ← hkW, ← hkT, ← hkH]
    have q1 : ((nW : Int) != (kW : Int)) = false := by simp; omega
    have q2 : ((nT : Int) != (kT : Int)) = false := by simp; omega
    have q3 : ((nH : Int) != (kH : Int)) = true := by simp; omega
    clear hnW hnT hnH hkW hkT hkH HX0 HX4 HX5 HY0 HY4 HY5 HT HR HFF HLE h1 h2 hne
    go_enter Try.func14, Try.ntmps14
    go_wp2_with fail
    rw [HW.out]
    have hb0 := Below.refl w2.heap.size w2
    obtain ⟨x0, x1, x2, x3, x4, x5, x6, y0, y1, y2, y3, y4, y5, y6⟩ := HC.out _ hb0
    have c1 := E1.out _ hb0
    rw [hsl] at c1
    go_wp2_with fail
    refine c1.mono ?_
    rintro e w3 ⟨rfl, hr0⟩
    have hb1 := hb0.trans (hr0.mono hb0.size)
    clear x0 x1 x2 x3 x4 x5 x6 y0 y1 y2 y3 y4 y5 y6
    obtain ⟨x0, x1, x2, x3, x4, x5, x6, y0, y1, y2, y3, y4, y5, y6⟩ := HC.out _ hb1
    go_wp2_with fail
    go_ret
    exact ⟨rfl, HB.out.trans (hb1.mono HB.out.size)⟩
  by_cases h4 : m.time = n.time
  case neg =>
    have hne : ¬ (m.time = n.time) := h4
    clear h4
    rw [HFF.out (Or.inr (Or.inr (Or.inr (Or.inl hne))))]
    obtain ⟨nW, hnW⟩ : ∃ z, z = m.W.length := ⟨_, rfl⟩
    obtain ⟨kW, hkW⟩ : ∃ z, z = n.W.length := ⟨_, rfl⟩
    obtain ⟨nT, hnT⟩ : ∃ z, z = m.T.length := ⟨_, rfl⟩
    obtain ⟨kT, hkT⟩ : ∃ z, z = n.T.length := ⟨_, rfl⟩
    obtain ⟨nH, hnH⟩ : ∃ z, z = m.H.length := ⟨_, rfl⟩
    obtain ⟨kH, hkH⟩ : ∃ z, z = n.H.length := ⟨_, rfl⟩
    rw [← hnW, ← hnT, ← hnH, ← hkW, ← hkT, ← hkH] at HW HC
    rw [← hnW, ← hnT, ← hnH, ← hkW, ← hkT, ← hkH]
    have q1 : ((nW : Int) != (kW : Int)) = false := by simp; omega
    have q2 : ((nT : Int) != (kT : Int)) = false := by simp; omega
    have q3 : ((nH : Int) != (kH : Int)) = false := by simp; omega
    have q4 : (m.time != n.time) = true := by simpa using hne
    clear hnW hnT hnH hkW hkT hkH HX0 HX4 HX5 HY0 HY4 HY5 HT HR HFF HLE h1 h2 h3 hne
    go_enter Try.func14, Try.ntmps14
    go_wp2_with fail
    rw [HW.out]
    have hb0 := Below.refl w2.heap.size w2
    obtain ⟨x0, x1, x2, x3, x4, x5, x6, y0, y1, y2, y3, y4, y5, y6⟩ := HC.out _ hb0
    have c1 := E1.out _ hb0
    rw [hsl] at c1
    go_wp2_with fail
    refine c1.mono ?_
    rintro e w3 ⟨rfl, hr0⟩
    have hb1 := hb0.trans (hr0.mono hb0.size)
    clear x0 x1 x2 x3 x4 x5 x6 y0 y1 y2 y3 y4 y5 y6
    obtain ⟨x0, x1, x2, x3, x4, x5, x6, y0, y1, y2, y3, y4, y5, y6⟩ := HC.out _ hb1
    go_wp2_with fail
    go_ret
    exact ⟨rfl, HB.out.trans (hb1.mono HB.out.size)⟩
  have HSL := Lib.hid hsl
  have HL1 := Lib.hid h1
  have HL2 := Lib.hid h2
  have HL3 := Lib.hid h3
  have HL4 := Lib.hid h4
  obtain ⟨nW, hnW⟩ : ∃ z, z = m.W.length := ⟨_, rfl⟩
  obtain ⟨nT, hnT⟩ : ∃ z, z = m.T.length := ⟨_, rfl⟩
  obtain ⟨nH, hnH⟩ : ∃ z, z = m.H.length := ⟨_, rfl⟩
  rw [← h1, ← h2, ← h3, ← h4] at HW HC
  rw [← h1, ← h2, ← h3, ← h4]
  rw [← hnW, ← hnT, ← hnH] at HW HC HLE
  rw [← hnW, ← hnT, ← hnH]
  have HNW := Lib.hid hnW
  have HNT := Lib.hid hnT
  have HNH := Lib.hid hnH
  have hW8 := HLE.out.1
  have hT8 := HLE.out.2.1
  have hH8 := HLE.out.2.2
  have q1 : ((nW : Int) != (nW : Int)) = false := by simp
  have q2 : ((nT : Int) != (nT : Int)) = false := by simp
  have q3 : ((nH : Int) != (nH : Int)) = false := by simp
  have q4 : (m.time != m.time) = false := by simp
  clear h1 h2 h3 h4 hnW hnT hnH
  go_enter Try.func14, Try.ntmps14
  go_wp2_with fail
  rw [HW.out]
  have hb0 := Below.refl w2.heap.size w2
  obtain ⟨x0, x1, x2, x3, x4, x5, x6, y0, y1, y2, y3, y4, y5, y6⟩ := HC.out _ hb0
  have c1 := E1.out _ hb0
  rw [hsl] at c1
  go_wp2_with fail
  refine c1.mono ?_
  rintro e w3 ⟨rfl, hr0⟩
  have hb1 := hb0.trans (hr0.mono hb0.size)
  clear x0 x1 x2 x3 x4 x5 x6 y0 y1 y2 y3 y4 y5 y6
  clear hsl hr0
  obtain ⟨x0, x1, x2, x3, x4, x5, x6, y0, y1, y2, y3, y4, y5, y6⟩ := HC.out _ hb1
  go_wp2_with fail
  clear x0 x1 x2 x3 x4 x5 x6 y0 y1 y2 y3 y4 y5 y6 q1 q2 q3 q4 E1 hb0
  have HB3 := Lib.hid hb1
  clear hb1
  go_loopg [6] nW (fun gg s6 wr => ∃ kk : Nat, kk ≤ nW ∧ nW - kk ≤ gg ∧ s6 = .int .i64 kk ∧ Hid (Below w2.heap.size w2 wr) ∧ Hid (∀ j (h : j < m.W.length) (h2 : j < n.W.length), j < kk → intEq m.W[j] n.W[j] = true))
  case atStart => exact ⟨0, Nat.zero_le _, by omega, rfl, HB3, fun j _ _ hj => absurd hj (Nat.not_lt_zero _)⟩
  case round =>
    obtain ⟨kk, hkk, hg, rfl, BW, AA⟩ := hrel
    by_cases hlt : kk < nW
    · have hltz : (kk : Int) < (nW : Int) := by omega
      have hgez : (0 : Int) ≤ (kk : Int) := by omega
      have hlt1 : kk < m.W.length := by rw [← HNW.out]; exact hlt
      have hlt2 : kk < n.W.length := by rw [← HL1.out, ← HNW.out]; exact hlt
      obtain ⟨b1, o1, rfl, hb1, he1⟩ := HX0.out (by omega)
      obtain ⟨b2, o2, rfl, hb2, he2⟩ := HY0.out (by omega)
      have HQ0 := Lib.hid (fun h : intEq m.W[kk] n.W[kk] = true => (show ∀ j (h : j < m.W.length) (h2 : j < n.W.length), j < kk + 1 → intEq m.W[j] n.W[j] = true from fun j h1 h2 hj => by
        by_cases e : j = kk
        · subst e; exact h
        · exact AA.out j h1 h2 (by omega)))
      have HQ1 := Lib.hid (fun h : intEq m.W[kk] n.W[kk] = false => (show eqL intEq m.W n.W = false from by
        cases he : eqL intEq m.W n.W with
        | false => rfl
        | true => have := eqL_at (HL1.out) kk hlt1 he; rw [h] at this; cases this))
      obtain ⟨x, hx⟩ : ∃ x, m.W[kk] = x := ⟨_, rfl⟩
      obtain ⟨y, hy⟩ : ∃ y, n.W[kk] = y := ⟨_, rfl⟩
      have HX := Lib.hid hx
      have HY := Lib.hid hy
      have HS := Lib.hid (fun W (hb : Below w2.heap.size w2 W) => (show W.cell? ⟨w.heap.size, 0, none⟩ = some (.slice (some ⟨b1, o1, none⟩) nW c0) ∧ W.cell? ⟨w.heap.size + 1, 0, none⟩ = some (.slice (some ⟨b2, o2, none⟩) nW d0) ∧ W.cell? ⟨b1, o1 + kk, none⟩ = some (.int .i64 x) ∧ W.cell? ⟨b2, o2 + kk, none⟩ = some (.int .i64 y) from by
        obtain ⟨x0, x1, x2, x3, x4, x5, x6, y0, y1, y2, y3, y4, y5, y6⟩ := HC.out _ hb
        exact ⟨x0, y0, by have := he1 W hb kk hlt1 0 _ rfl; simpa [HX.out] using this, by have := he2 W hb kk hlt2 0 _ rfl; simpa [HY.out] using this⟩))
      rw [hx, hy] at HQ0 HQ1
      obtain ⟨x0, x1, x2, x3, x4, x5, x6, y0, y1, y2, y3, y4, y5, y6⟩ := HC.out _ BW.out
      clear he1 he2 hx hy HX HY hb1 hb2
      cases hq : intEq x y with
      | true =>
        have HQ := Lib.hid (HQ0.out hq)
        have hnq : (x != y) = false := by unfold intEq at hq; simpa using hq
        clear hq HQ0 HQ1
        go_wp2_with fail
        refine wp_region_held_drew (S := fun W => W.cell? ⟨w.heap.size, 0, none⟩ = some (.slice (some ⟨b1, o1, none⟩) nW c0) ∧ W.cell? ⟨w.heap.size + 1, 0, none⟩ = some (.slice (some ⟨b2, o2, none⟩) nW d0) ∧ W.cell? ⟨b1, o1 + kk, none⟩ = some (.int .i64 x) ∧ W.cell? ⟨b2, o2 + kk, none⟩ = some (.int .i64 y)) (by kernel_rfl) ?_ (fun hbr => ?_)
        · exact HS.out _ BW.out.drew
        refine tkA 0 ?_
        refine tkA 1 ?_
        refine tkA 2 ?_
        refine tkA 3 ?_
        refine tkA 4 ?_
        refine tkA 5 ?_
        refine tkA 6 ?_
        refine tkA 7 ?_
        refine tkA 8 ?_
        refine tkA 9 ?_
        refine tkA 10 ?_
        refine wpAnyH_done (by kernel_rfl) ?_ _
        go_wp2_with fail
        go_roundg (nW - (kk + 1))
        case measure => omega
        case rel => exact ⟨kk + 1, by omega, by omega, by go_num, Lib.hid BW.out.drew, HQ⟩
      | false =>
        have HQ := Lib.hid (HQ1.out hq)
        have hnq : (x != y) = true := by unfold intEq at hq; simpa using hq
        clear hq HQ0 HQ1
        go_wp2_with fail
        refine wp_region_held_drew (S := fun W => W.cell? ⟨w.heap.size, 0, none⟩ = some (.slice (some ⟨b1, o1, none⟩) nW c0) ∧ W.cell? ⟨w.heap.size + 1, 0, none⟩ = some (.slice (some ⟨b2, o2, none⟩) nW d0) ∧ W.cell? ⟨b1, o1 + kk, none⟩ = some (.int .i64 x) ∧ W.cell? ⟨b2, o2 + kk, none⟩ = some (.int .i64 y)) (by kernel_rfl) ?_ (fun hcr => ?_)
        · exact HS.out _ BW.out.drew
        refine tkA 0 ?_
        refine tkA 1 ?_
        refine tkA 2 ?_
        refine tkA 3 ?_
        refine tkA 4 ?_
        refine tkA 5 ?_
        refine tkA 6 ?_
        refine tkA 7 ?_
        refine tkA 8 ?_
        refine tkA 9 ?_
        refine tkA 10 ?_
        refine wpAnyH_done (by kernel_rfl) ?_ _
        go_wp2_with fail
        go_ret
        exact ⟨by rw [HFF.out (Or.inr (Or.inr (Or.inr (Or.inr (Or.inr (Or.inl HQ.out))))))]; rfl, HB.out.trans ((Lib.hid BW.out.drew).out.mono HB.out.size)⟩
    · obtain rfl : kk = nW := by omega
      have hltz : ¬ (kk : Int) < (kk : Int) := by omega
      have HEW := Lib.hid (show eqL intEq m.W n.W = true from eqL_all HL1.out fun j h1 => AA.out j h1 (by rw [← HL1.out]; exact h1) (by rw [HNW.out]; exact h1))
      have HB_W := Lib.hid BW.out
      obtain ⟨x0, x1, x2, x3, x4, x5, x6, y0, y1, y2, y3, y4, y5, y6⟩ := HC.out _ BW.out
      clear AA HX0 HY0
      go_wp2_with fail
      clear x0 x1 x2 x3 x4 x5 x6 y0 y1 y2 y3 y4 y5 y6 hltz BW
      go_loopg [7, 8] nT (fun gg s7 s8 wr => ∃ kk : Nat, kk ≤ nT ∧ nT - kk ≤ gg ∧ s7 = .int .i64 kk ∧ Hid (Below w2.heap.size w2 wr) ∧ Hid (∀ j (h : j < m.T.length) (h2 : j < n.T.length), j < kk → txEq m.T[j] n.T[j] = true))
      case atStart => exact ⟨0, Nat.zero_le _, by omega, rfl, HB_W, fun j _ _ hj => absurd hj (Nat.not_lt_zero _)⟩
      case round =>
        obtain ⟨kk, hkk, hg, rfl, BW, AA⟩ := hrel
        by_cases hlt : kk < nT
        · have hltz : (kk : Int) < (nT : Int) := by omega
          have hgez : (0 : Int) ≤ (kk : Int) := by omega
          have hlt1 : kk < m.T.length := by rw [← HNT.out]; exact hlt
          have hlt2 : kk < n.T.length := by rw [← HL2.out, ← HNT.out]; exact hlt
          obtain ⟨b1, o1, rfl, hb1, he1⟩ := HX4.out (by omega)
          obtain ⟨b2, o2, rfl, hb2, he2⟩ := HY4.out (by omega)
          have HQ0 := Lib.hid (fun h : txEq m.T[kk] n.T[kk] = true => (show ∀ j (h : j < m.T.length) (h2 : j < n.T.length), j < kk + 1 → txEq m.T[j] n.T[j] = true from fun j h1 h2 hj => by
            by_cases e : j = kk
            · subst e; exact h
            · exact AA.out j h1 h2 (by omega)))
          have HQ1 := Lib.hid (fun h : txEq m.T[kk] n.T[kk] = false => (show eqR txEq m.T n.T = false from by
            cases he : eqR txEq m.T n.T with
            | false => rfl
            | true => have := eqR_at kk hlt1 hlt2 he; rw [h] at this; cases this))
          have HCR := Lib.hid (fun W hb => HT.out W hb kk hlt1 hlt2)
          obtain ⟨x, hx⟩ : ∃ x, m.T[kk] = x := ⟨_, rfl⟩
          obtain ⟨y, hy⟩ : ∃ y, n.T[kk] = y := ⟨_, rfl⟩
          have HX := Lib.hid hx
          have HY := Lib.hid hy
          have HS := Lib.hid (fun W (hb : Below w2.heap.size w2 W) => (show W.cell? ⟨w.heap.size, 4, none⟩ = some (.slice (some ⟨b1, o1, none⟩) nT c4) ∧ W.cell? ⟨w.heap.size + 1, 4, none⟩ = some (.slice (some ⟨b2, o2, none⟩) nT d4) ∧ W.rangeAt b1 (o1 + kk * 11) (encTx x) ∧ W.rangeAt b2 (o2 + kk * 11) (encTx y) from by
            obtain ⟨x0, x1, x2, x3, x4, x5, x6, y0, y1, y2, y3, y4, y5, y6⟩ := HC.out _ hb
            exact ⟨x4, y4, fun j v hv => he1 W hb kk hlt1 j v (by rw [HX.out]; exact hv), fun j v hv => he2 W hb kk hlt2 j v (by rw [HY.out]; exact hv)⟩))
          rw [hx, hy] at HQ0 HQ1 HCR
          obtain ⟨x0, x1, x2, x3, x4, x5, x6, y0, y1, y2, y3, y4, y5, y6⟩ := HC.out _ BW.out
          clear he1 he2 hx hy HX HY hb1 hb2
          cases hq : txEq x y with
          | true =>
            have HQ := Lib.hid (HQ0.out hq)
            rw [hq] at HCR
            clear hq HQ0 HQ1
            go_wp2_with fail
            refine wp_region_held_drew (S := fun W => W.cell? ⟨w.heap.size, 4, none⟩ = some (.slice (some ⟨b1, o1, none⟩) nT c4) ∧ W.cell? ⟨w.heap.size + 1, 4, none⟩ = some (.slice (some ⟨b2, o2, none⟩) nT d4) ∧ W.rangeAt b1 (o1 + kk * 11) (encTx x) ∧ W.rangeAt b2 (o2 + kk * 11) (encTx y)) (by kernel_rfl) ?_ (fun hdr => ?_)
            · exact HS.out _ BW.out.drew
            refine tkA 0 ?_
            refine tkA 1 ?_
            refine tkA 2 ?_
            refine tkA 3 ?_
            refine tkA 4 (v := .agg (encTx x).toArray) ?_ (hy := by (intro w hSw; (try dsimp only at hSw); exact rload_mid rfl rfl hSw.2.2.1 Try.underlying46 rfl rthread_size))
            refine tkA 5 ?_
            refine tkA 6 ?_
            refine tkA 7 ?_
            refine tkA 8 ?_
            refine tkA 9 (v := .agg (encTx y).toArray) ?_ (hy := by (intro w hSw; (try dsimp only at hSw); exact rload_mid rfl rfl hSw.2.2.2 Try.underlying46 rfl rthread_size))
            refine stA 10 (fun K hK => ?_)
            go_simp
            refine (HCR.out _ BW.out.drew).mono ?_
            rintro e w4 ⟨rfl, hr⟩
            have BW4 := Lib.hid (BW.out.drew.trans (hr.mono BW.out.drew.size))
            clear hr
            try go_wp2_with fail
            refine hK.out _ _ ?_ (fun hdr10 => ?_)
            · exact HS.out _ BW4.out
            clear hK K hdr
            try simp only [Act.put, List.setIfInBounds_toArray, List.set_cons_zero, List.set_cons_succ]
            refine stA 11 (fun K hK => ?_)
            go_simp
            refine hK.out _ _ ?_ (fun hdr11 => ?_)
            · exact HS.out _ BW4.out
            clear hK K hdr10
            try simp only [Act.put, List.setIfInBounds_toArray, List.set_cons_zero, List.set_cons_succ]
            refine wpAnyH_done (by kernel_rfl) ?_ _
            go_wp2_with fail
            go_roundg (nT - (kk + 1))
            case measure => omega
            case rel => exact ⟨kk + 1, by omega, by omega, by go_num, BW4, HQ⟩
          | false =>
            have HQ := Lib.hid (HQ1.out hq)
            rw [hq] at HCR
            clear hq HQ0 HQ1
            go_wp2_with fail
            refine wp_region_held_drew (S := fun W => W.cell? ⟨w.heap.size, 4, none⟩ = some (.slice (some ⟨b1, o1, none⟩) nT c4) ∧ W.cell? ⟨w.heap.size + 1, 4, none⟩ = some (.slice (some ⟨b2, o2, none⟩) nT d4) ∧ W.rangeAt b1 (o1 + kk * 11) (encTx x) ∧ W.rangeAt b2 (o2 + kk * 11) (encTx y)) (by kernel_rfl) ?_ (fun her => ?_)
            · exact HS.out _ BW.out.drew
            refine tkA 0 ?_
            refine tkA 1 ?_
            refine tkA 2 ?_
            refine tkA 3 ?_
            refine tkA 4 (v := .agg (encTx x).toArray) ?_ (hy := by (intro w hSw; (try dsimp only at hSw); exact rload_mid rfl rfl hSw.2.2.1 Try.underlying46 rfl rthread_size))
            refine tkA 5 ?_
            refine tkA 6 ?_
            refine tkA 7 ?_
            refine tkA 8 ?_
            refine tkA 9 (v := .agg (encTx y).toArray) ?_ (hy := by (intro w hSw; (try dsimp only at hSw); exact rload_mid rfl rfl hSw.2.2.2 Try.underlying46 rfl rthread_size))
            refine stA 10 (fun K hK => ?_)
            go_simp
            refine (HCR.out _ BW.out.drew).mono ?_
            rintro e w4 ⟨rfl, hr⟩
            have BW4 := Lib.hid (BW.out.drew.trans (hr.mono BW.out.drew.size))
            clear hr
            try go_wp2_with fail
            refine hK.out _ _ ?_ (fun her10 => ?_)
            · exact HS.out _ BW4.out
            clear hK K her
            try simp only [Act.put, List.setIfInBounds_toArray, List.set_cons_zero, List.set_cons_succ]
            refine stA 11 (fun K hK => ?_)
            go_simp
            refine hK.out _ _ ?_ (fun her11 => ?_)
            · exact HS.out _ BW4.out
            clear hK K her10
            try simp only [Act.put, List.setIfInBounds_toArray, List.set_cons_zero, List.set_cons_succ]
            refine wpAnyH_done (by kernel_rfl) ?_ _
            go_wp2_with fail
            go_ret
            exact ⟨by rw [HFF.out (Or.inr (Or.inr (Or.inr (Or.inr (Or.inr (Or.inr (Or.inl HQ.out)))))))]; rfl, HB.out.trans ((BW4).out.mono HB.out.size)⟩
        · obtain rfl : kk = nT := by omega
          have hltz : ¬ (kk : Int) < (kk : Int) := by omega
          have HET := Lib.hid (show eqR txEq m.T n.T = true from eqR_all HL2.out fun j h1 h2 => AA.out j h1 h2 (by rw [HNT.out]; exact h1))
          have HB_T := Lib.hid BW.out
          obtain ⟨x0, x1, x2, x3, x4, x5, x6, y0, y1, y2, y3, y4, y5, y6⟩ := HC.out _ BW.out
          clear AA HX4 HY4
          go_wp2_with fail
          clear x0 x1 x2 x3 x4 x5 x6 y0 y1 y2 y3 y4 y5 y6 hltz BW
          go_loopg [9, 10] nH (fun gg s9 s10 wr => ∃ kk : Nat, kk ≤ nH ∧ nH - kk ≤ gg ∧ s9 = .int .i64 kk ∧ Hid (Below w2.heap.size w2 wr) ∧ Hid (∀ j (h : j < m.H.length) (h2 : j < n.H.length), j < kk → rxEq m.H[j] n.H[j] = true))
          case atStart => exact ⟨0, Nat.zero_le _, by omega, rfl, HB_T, fun j _ _ hj => absurd hj (Nat.not_lt_zero _)⟩
          case round =>
            obtain ⟨kk, hkk, hg, rfl, BW, AA⟩ := hrel
            by_cases hlt : kk < nH
            · have hltz : (kk : Int) < (nH : Int) := by omega
              have hgez : (0 : Int) ≤ (kk : Int) := by omega
              have hlt1 : kk < m.H.length := by rw [← HNH.out]; exact hlt
              have hlt2 : kk < n.H.length := by rw [← HL3.out, ← HNH.out]; exact hlt
              obtain ⟨b1, o1, rfl, hb1, he1⟩ := HX5.out (by omega)
              obtain ⟨b2, o2, rfl, hb2, he2⟩ := HY5.out (by omega)
              have HQ0 := Lib.hid (fun h : rxEq m.H[kk] n.H[kk] = true => (show ∀ j (h : j < m.H.length) (h2 : j < n.H.length), j < kk + 1 → rxEq m.H[j] n.H[j] = true from fun j h1 h2 hj => by
                by_cases e : j = kk
                · subst e; exact h
                · exact AA.out j h1 h2 (by omega)))
              have HQ1 := Lib.hid (fun h : rxEq m.H[kk] n.H[kk] = false => (show eqR rxEq m.H n.H = false from by
                cases he : eqR rxEq m.H n.H with
                | false => rfl
                | true => have := eqR_at kk hlt1 hlt2 he; rw [h] at this; cases this))
              have HCR := Lib.hid (fun W hb => HR.out W hb kk hlt1 hlt2)
              obtain ⟨x, hx⟩ : ∃ x, m.H[kk] = x := ⟨_, rfl⟩
              obtain ⟨y, hy⟩ : ∃ y, n.H[kk] = y := ⟨_, rfl⟩
              have HX := Lib.hid hx
              have HY := Lib.hid hy
              have HS := Lib.hid (fun W (hb : Below w2.heap.size w2 W) => (show W.cell? ⟨w.heap.size, 5, none⟩ = some (.slice (some ⟨b1, o1, none⟩) nH c5) ∧ W.cell? ⟨w.heap.size + 1, 5, none⟩ = some (.slice (some ⟨b2, o2, none⟩) nH d5) ∧ W.rangeAt b1 (o1 + kk * 10) (encRx x) ∧ W.rangeAt b2 (o2 + kk * 10) (encRx y) from by
                obtain ⟨x0, x1, x2, x3, x4, x5, x6, y0, y1, y2, y3, y4, y5, y6⟩ := HC.out _ hb
                exact ⟨x5, y5, fun j v hv => he1 W hb kk hlt1 j v (by rw [HX.out]; exact hv), fun j v hv => he2 W hb kk hlt2 j v (by rw [HY.out]; exact hv)⟩))
              rw [hx, hy] at HQ0 HQ1 HCR
              obtain ⟨x0, x1, x2, x3, x4, x5, x6, y0, y1, y2, y3, y4, y5, y6⟩ := HC.out _ BW.out
              clear he1 he2 hx hy HX HY hb1 hb2
              cases hq : rxEq x y with
              | true =>
                have HQ := Lib.hid (HQ0.out hq)
                rw [hq] at HCR
                clear hq HQ0 HQ1
                go_wp2_with fail
                refine wp_region_held_drew (S := fun W => W.cell? ⟨w.heap.size, 5, none⟩ = some (.slice (some ⟨b1, o1, none⟩) nH c5) ∧ W.cell? ⟨w.heap.size + 1, 5, none⟩ = some (.slice (some ⟨b2, o2, none⟩) nH d5) ∧ W.rangeAt b1 (o1 + kk * 10) (encRx x) ∧ W.rangeAt b2 (o2 + kk * 10) (encRx y)) (by kernel_rfl) ?_ (fun hfr => ?_)
                · exact HS.out _ BW.out.drew
                refine tkA 0 ?_
                refine tkA 1 ?_
                refine tkA 2 ?_
                refine tkA 3 ?_
                refine tkA 4 (v := .agg (encRx x).toArray) ?_ (hy := by (intro w hSw; (try dsimp only at hSw); exact rload_mid rfl rfl hSw.2.2.1 Try.underlying50 rfl rrec_size))
                refine tkA 5 ?_
                refine tkA 6 ?_
                refine tkA 7 ?_
                refine tkA 8 ?_
                refine tkA 9 (v := .agg (encRx y).toArray) ?_ (hy := by (intro w hSw; (try dsimp only at hSw); exact rload_mid rfl rfl hSw.2.2.2 Try.underlying50 rfl rrec_size))
                refine stA 10 (fun K hK => ?_)
                go_simp
                refine (HCR.out _ BW.out.drew).mono ?_
                rintro e w4 ⟨rfl, hr⟩
                have BW4 := Lib.hid (BW.out.drew.trans (hr.mono BW.out.drew.size))
                clear hr
                try go_wp2_with fail
                refine hK.out _ _ ?_ (fun hfr10 => ?_)
                · exact HS.out _ BW4.out
                clear hK K hfr
                try simp only [Act.put, List.setIfInBounds_toArray, List.set_cons_zero, List.set_cons_succ]
                refine stA 11 (fun K hK => ?_)
                go_simp
                refine hK.out _ _ ?_ (fun hfr11 => ?_)
                · exact HS.out _ BW4.out
                clear hK K hfr10
                try simp only [Act.put, List.setIfInBounds_toArray, List.set_cons_zero, List.set_cons_succ]
                refine wpAnyH_done (by kernel_rfl) ?_ _
                go_wp2_with fail
                go_roundg (nH - (kk + 1))
                case measure => omega
                case rel => exact ⟨kk + 1, by omega, by omega, by go_num, BW4, HQ⟩
              | false =>
                have HQ := Lib.hid (HQ1.out hq)
                rw [hq] at HCR
                clear hq HQ0 HQ1
                go_wp2_with fail
                refine wp_region_held_drew (S := fun W => W.cell? ⟨w.heap.size, 5, none⟩ = some (.slice (some ⟨b1, o1, none⟩) nH c5) ∧ W.cell? ⟨w.heap.size + 1, 5, none⟩ = some (.slice (some ⟨b2, o2, none⟩) nH d5) ∧ W.rangeAt b1 (o1 + kk * 10) (encRx x) ∧ W.rangeAt b2 (o2 + kk * 10) (encRx y)) (by kernel_rfl) ?_ (fun hgr => ?_)
                · exact HS.out _ BW.out.drew
                refine tkA 0 ?_
                refine tkA 1 ?_
                refine tkA 2 ?_
                refine tkA 3 ?_
                refine tkA 4 (v := .agg (encRx x).toArray) ?_ (hy := by (intro w hSw; (try dsimp only at hSw); exact rload_mid rfl rfl hSw.2.2.1 Try.underlying50 rfl rrec_size))
                refine tkA 5 ?_
                refine tkA 6 ?_
                refine tkA 7 ?_
                refine tkA 8 ?_
                refine tkA 9 (v := .agg (encRx y).toArray) ?_ (hy := by (intro w hSw; (try dsimp only at hSw); exact rload_mid rfl rfl hSw.2.2.2 Try.underlying50 rfl rrec_size))
                refine stA 10 (fun K hK => ?_)
                go_simp
                refine (HCR.out _ BW.out.drew).mono ?_
                rintro e w4 ⟨rfl, hr⟩
                have BW4 := Lib.hid (BW.out.drew.trans (hr.mono BW.out.drew.size))
                clear hr
                try go_wp2_with fail
                refine hK.out _ _ ?_ (fun hgr10 => ?_)
                · exact HS.out _ BW4.out
                clear hK K hgr
                try simp only [Act.put, List.setIfInBounds_toArray, List.set_cons_zero, List.set_cons_succ]
                refine stA 11 (fun K hK => ?_)
                go_simp
                refine hK.out _ _ ?_ (fun hgr11 => ?_)
                · exact HS.out _ BW4.out
                clear hK K hgr10
                try simp only [Act.put, List.setIfInBounds_toArray, List.set_cons_zero, List.set_cons_succ]
                refine wpAnyH_done (by kernel_rfl) ?_ _
                go_wp2_with fail
                go_ret
                exact ⟨by rw [HFF.out (Or.inr (Or.inr (Or.inr (Or.inr (Or.inr (Or.inr (Or.inr HQ.out)))))))]; rfl, HB.out.trans ((BW4).out.mono HB.out.size)⟩
            · obtain rfl : kk = nH := by omega
              have hltz : ¬ (kk : Int) < (kk : Int) := by omega
              have HEH := Lib.hid (show eqR rxEq m.H n.H = true from eqR_all HL3.out fun j h1 h2 => AA.out j h1 h2 (by rw [HNH.out]; exact h1))
              have HB_H := Lib.hid BW.out
              obtain ⟨x0, x1, x2, x3, x4, x5, x6, y0, y1, y2, y3, y4, y5, y6⟩ := HC.out _ BW.out
              clear AA HX5 HY5
              go_wp2_with fail
              go_ret
              exact ⟨by rw [show memEq m n = true from by unfold memEq; rw [HEW.out, HET.out, HEH.out, HSL.out, HL4.out]; simp]; rfl, HB.out.trans (HB_H.out.mono HB.out.size)⟩
end Go.Proofs.Ytngimbfojccikaa
