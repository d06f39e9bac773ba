/- back: a word is written. -/
import Derived.Test.YtmcbnpeihedcaaaStCheck
namespace Go.Proofs.Ytmcbnpeihedcaaa
set_option linter.unusedSimpArgs false
open Go Go.RowKit
set_option linter.unusedVariables false
set_option maxRecDepth 100000

section
variable {w0 w w' : World} {r : Nat} {φ : Nat → Nat} {a : Ad} {m : Mm} {pw pm : Int} {pv : Value}

theorem RunW.wcell {who : Int} (h : RunW w0 w r φ a m pw pm pv who) {p : Nat} (hp : p < m.W.length) : w.cell? ⟨a.gW, p, none⟩ = some (.int .i64 m.W[p]) ∧ w.frozen? ⟨a.gW, p, none⟩ = false := by
  obtain ⟨_, _, _, _, cw, hW⟩ := own_blk h.wrow
  refine ⟨?_, hW.free p⟩
  have := h.wrow.cells (g := a.gW) rfl _ _ (encI_get m.W p hp)
  rwa [add_none, Nat.zero_add] at this

set_option maxHeartbeats 8000000 in
theorem back_any {k : Nat} {t : Tx} (h : RunW w0 w r φ a m pw pm pv (k : Int)) (hk : m.T[k]? = some t) (hL8 : m.L.length ≤ 8) (htx : 0 ≤ t.tx ∧ t.tx ≤ 1000) (hW : t.W.length ≤ 1000)
    (j : Nat) (hi : t.i = (j : Int)) (x : Pr) (hx : t.W[j]? = some x) (p : Nat) (hxp : x.at_ = (p : Int)) (hp : p < m.W.length) :
    Calls Try.prog 47 #[.pointer (some ⟨r, 0, none⟩)] w (DonePost w0 r a (backM m k t) k pw pm pv) := by
  have hj : j < t.W.length := (List.getElem?_eq_some_iff.1 hx).1
  obtain ⟨er, L', hq⟩ : ∃ x' y, giveL m.now m.mx m.L x.at_ (k : Int) t.wv = (x', y) := ⟨_, _, rfl⟩
  have hL' : L'.length = m.L.length := by have := doL_len (giveF (k : Int) t.wv) m.now m.mx m.L x.at_ (someB (k : Int) && (decide (-1 ≤ t.wv) && decide (t.wv ≤ m.now))); unfold giveL at hq; rw [hq] at this; exact this
  have hspec : backM m k t = { m with W := m.W.set p x.v, L := L', T := m.T.set k (if t.i + 1 = t.W.length then overT t 0 else { t with i := t.i + 1 }) } := by
    unfold backM
    rw [hi, Int.toNat_natCast, hx]
    simp only [hq]
    rw [hxp, Int.toNat_natCast]
  have HME := Lib.hid (me_any h hk)
  have HH := Lib.hid h
  have HK := Lib.hid hk
  have hrl := h.run.lt
  have hap := h.apart
  have HS := Lib.hid hspec
  have HLL := Lib.hid hL'
  rw [hxp] at hq
  have HGV := Lib.hid (fun (w : World) φ a m' (h : RunW w0 w r φ a m' pw pm pv (k : Int)) (e1 : m'.now = m.now) (e2 : m'.mx = m.mx) (e3 : m'.L = m.L) => (show Calls Try.prog 62 #[.agg #[.int .i64 m.now, .int .i64 m.mx, .slice a.lA m.L.length a.lc], .int .i64 (p : Int), .int .i64 (k : Int), .int .i64 t.wv] w (LkRes m.now m.mx (er, L') w) from
    hq ▸ Give_any _ m.now m.mx (p : Int) (k : Int) t.wv m.L w (by have := h.locks; rw [e1, e2, e3] at this; exact this) (by omega)))
  obtain ⟨b, hbA, _, hWc, hcM, _, _⟩ := (h.ts k t hk).W.pairs (by omega)
  have HPC := Lib.hid (fun W (hb : Below w.heap.size w W) => (show W.cell? ⟨b, j * 2, none⟩ = some (.int .i64 (p : Int)) ∧ W.cell? ⟨b, j * 2 + 1, none⟩ = some (.int .i64 x.v) from by
    obtain ⟨b', hbA', _, _, _, _, hpp⟩ := ((h.keep hb).ts k t hk).W.pairs (by omega)
    rw [hbA] at hbA'
    injection hbA' with e
    injection e with e
    subst e
    rw [← hxp]
    exact hpp j x hx))
  obtain ⟨n, hn⟩ : ∃ n, n = t.W.length := ⟨_, rfl⟩
  obtain ⟨nw, hnw⟩ : ∃ n, n = m.W.length := ⟨_, rfl⟩
  have hjz : (j : Int) < (n : Int) := by omega
  have hj0 : (0 : Int) ≤ (j : Int) := by omega
  have hpz : (p : Int) < (nw : Int) := by omega
  have hp0 : (0 : Int) ≤ (p : Int) := by omega
  have hwr : IntKind.i64.wrap ((j : Int) + 1) = (j : Int) + 1 := by rw [IntKind.wrap_i64]; omega
  have HI := Lib.hid hi
  have HN := Lib.hid hn
  have HNW := Lib.hid hnw
  have HBA := Lib.hid hbA
  have HP := Lib.hid hp
  clear h hk hq hspec hL' hx hi hbA hn hnw hp hxp
  go_enter Try.func47, Try.ntmps47
  go_wp2_with fail
  refine HME.out.mono ?_
  rintro e w1 ⟨rfl, hb1⟩
  have H1 := Lib.hid (HH.out.keep hb1)
  have hz1 := hb1.size
  have HCT := Lib.hid (fun W (hb : Below w1.heap.size w1 W) => (show W.cell? ⟨a.gT, k * 11 + 8, none⟩ = some (.slice (some ⟨b, 0, none⟩) n t.wc) ∧ W.cell? ⟨a.gT, k * 11 + 9, none⟩ = some (.int .i64 (j : Int)) ∧ W.cell? ⟨b, j * 2, none⟩ = some (.int .i64 (p : Int)) ∧ W.cell? ⟨b, j * 2 + 1, none⟩ = some (.int .i64 x.v) from
    ⟨by have e := (H1.out.keep hb).tcells HK.out (j := 8) rfl; rw [HBA.out, ← HN.out] at e; exact e, by have e := (H1.out.keep hb).tcells HK.out (j := 9) rfl; rw [HI.out] at e; exact e, (HPC.out W (hb1.trans (hb.mono hb1.size))).1, (HPC.out W (hb1.trans (hb.mono hb1.size))).2⟩))
  clear hb1 HME HPC HH
  go_wp2_with fail
  refine wp_region_held_drew (S := fun W => W.cell? ⟨a.gT, k * 11 + 8, none⟩ = some (.slice (some ⟨b, 0, none⟩) n t.wc) ∧ W.cell? ⟨a.gT, k * 11 + 9, none⟩ = some (.int .i64 (j : Int)) ∧ W.cell? ⟨b, j * 2, none⟩ = some (.int .i64 (p : Int)) ∧ W.cell? ⟨b, j * 2 + 1, none⟩ = some (.int .i64 x.v)) (by kernel_rfl) ?_ (fun hHeldbr => ?_)
  · exact HCT.out _ (Below.refl _ _).drew
  refine tkW 0 { dst := some 6, op := Op.move (Operand.tmp 2), type := 84, pos := "stm.go:193", after := _, guard := none } (v := ?vbr0) rfl (Or.inl ⟨by rfl, ?hybr0⟩) ?restbr0
  case hybr0 => (intro w hSw; (try dsimp only at hSw); go_simp <;> with_reducible rfl)
  try simp only [putW, setZ, setS]
  refine tkW 1 { dst := some 7, op := Op.nilCheck (Operand.tmp 6), type := 0, pos := "stm.go:193", after := _, guard := none } (v := ?vbr1) rfl (Or.inl ⟨by rfl, ?hybr1⟩) ?restbr1
  case hybr1 => (intro w hSw; (try dsimp only at hSw); go_simp <;> with_reducible rfl)
  try simp only [putW, setZ, setS]
  refine tkW 2 { dst := some 8, op := Op.fieldAddr 52 (Operand.tmp 7) 8, type := 0, pos := "stm.go:193", after := _, guard := none } (v := ?vbr2) rfl (Or.inl ⟨by rfl, ?hybr2⟩) ?restbr2
  case hybr2 => (intro w hSw; (try dsimp only at hSw); go_simp <;> with_reducible rfl)
  try simp only [putW, setZ, setS]
  refine tkW 3 { dst := some 9, op := Op.load 25 (Operand.tmp 8), type := 25, pos := "stm.go:193", after := _, guard := none } (v := ?vbr3) rfl (Or.inl ⟨by rfl, ?hybr3⟩) ?restbr3
  case hybr3 => (intro w hSw; (try dsimp only at hSw); go_simp <;> with_reducible rfl)
  try simp only [putW, setZ, setS]
  refine tkW 4 { dst := some 10, op := Op.move (Operand.tmp 2), type := 84, pos := "stm.go:193", after := _, guard := none } (v := ?vbr4) rfl (Or.inl ⟨by rfl, ?hybr4⟩) ?restbr4
  case hybr4 => (intro w hSw; (try dsimp only at hSw); go_simp <;> with_reducible rfl)
  try simp only [putW, setZ, setS]
  refine tkW 5 { dst := some 11, op := Op.nilCheck (Operand.tmp 10), type := 0, pos := "stm.go:193", after := _, guard := none } (v := ?vbr5) rfl (Or.inl ⟨by rfl, ?hybr5⟩) ?restbr5
  case hybr5 => (intro w hSw; (try dsimp only at hSw); go_simp <;> with_reducible rfl)
  try simp only [putW, setZ, setS]
  refine tkW 6 { dst := some 12, op := Op.fieldAddr 52 (Operand.tmp 11) 9, type := 0, pos := "stm.go:193", after := _, guard := none } (v := ?vbr6) rfl (Or.inl ⟨by rfl, ?hybr6⟩) ?restbr6
  case hybr6 => (intro w hSw; (try dsimp only at hSw); go_simp <;> with_reducible rfl)
  try simp only [putW, setZ, setS]
  refine tkW 7 { dst := some 13, op := Op.load 3 (Operand.tmp 12), type := 3, pos := "stm.go:193", after := _, guard := none } (v := ?vbr7) rfl (Or.inl ⟨by rfl, ?hybr7⟩) ?restbr7
  case hybr7 => (intro w hSw; (try dsimp only at hSw); go_simp <;> with_reducible rfl)
  try simp only [putW, setZ, setS]
  refine tkW 8 { dst := some 14, op := Op.indexAddr 25 (Operand.tmp 9) (Operand.tmp 13), type := 0, pos := "stm.go:193", after := _, guard := none } (v := ?vbr8) rfl (Or.inl ⟨by rfl, ?hybr8⟩) ?restbr8
  case hybr8 => (intro w hSw; (try dsimp only at hSw); go_simp <;> with_reducible rfl)
  try simp only [putW, setZ, setS]
  refine tkW 9 { dst := some 15, op := Op.load 34 (Operand.tmp 14), type := 34, pos := "stm.go:193", after := _, guard := none } (v := ?vbr9) rfl (Or.inl ⟨by rfl, ?hybr9⟩) ?restbr9
  case hybr9 => (intro w hSw; (try dsimp only at hSw); go_simp <;> with_reducible rfl)
  try simp only [putW, setZ, setS]
  refine wpAnyH_ready (rs := [10]) (by kernel_rfl) (by simp) ?_
  refine AllReadyH.cons (o := { dst := some 3, op := Op.alloc 34, type := 0, pos := "stm.go:193", after := _, guard := none }) rfl (fun K hK => ?_) AllReadyH.nil
  go_simp
  skip
  refine hK.out _ _ ?_ (fun hHeldbr10 => ?_)
  · exact HCT.out _ ((Below.refl w1.heap.size w1).drew.alloc (Nat.le_refl _) _)
  clear hK K hHeldbr
  try simp only [Act.put, List.setIfInBounds_toArray, List.set_cons_zero, List.set_cons_succ]
  refine wpAnyH_ready (rs := [11]) (by kernel_rfl) (by simp) ?_
  refine AllReadyH.cons (o := { dst := none, op := Op.store 34 (Operand.tmp 3) (Operand.tmp 15), type := 0, pos := "stm.go:193", after := _, guard := none }) rfl (fun K hK => ?_) AllReadyH.nil
  go_simp
  skip
  refine hK.out _ _ ?_ (fun hHeldbr11 => ?_)
  · exact HCT.out _ ((Below.refl w1.heap.size w1).drew.alloc (Nat.le_refl _) _)
  clear hK K hHeldbr10
  try simp only [Act.put, List.setIfInBounds_toArray, List.set_cons_zero, List.set_cons_succ]
  refine wpAnyH_done (by kernel_rfl) ?_ _
  obtain ⟨B, hB⟩ : ∃ B, B = w1.heap.size := ⟨_, rfl⟩
  obtain ⟨w2, hw2⟩ : ∃ y, (w1.alloc (.cells #[.int .i64 (p : Int), .int .i64 x.v] 34)).drew = y := ⟨_, rfl⟩
  have hb2 : Below w1.heap.size w1 w2 := hw2 ▸ ((Below.refl w1.heap.size w1).alloc (Nat.le_refl _) _).drew
  have H2 := Lib.hid (H1.out.keep hb2)
  have hbx : Blk w2 B 34 #[.int .i64 (p : Int), .int .i64 x.v] := hw2 ▸ (Blk.new_ w1 34 _ B hB.symm).drew
  have HBX := Lib.hid hbx
  have b0 : w2.cell? ⟨B, 0, none⟩ = some (.int .i64 (p : Int)) := by rw [hbx.cell]; rfl
  have b1 : w2.cell? ⟨B, 1, none⟩ = some (.int .i64 x.v) := by rw [hbx.cell]; rfl
  have q0 : w2.cell? ⟨r, 0, none⟩ = some (.slice (some ⟨a.gW, 0, none⟩) nw a.cW) := by rw [HNW.out]; exact H2.out.rcells 0
  have gw := (H2.out.wcell HP.out).1
  have gf := (H2.out.wcell HP.out).2
  have nB1 : ¬ a.gW = B := by have := (H1.out.apart).2.2.2.2.1; omega
  have nB2 : ¬ a.gT = B := by have := (H1.out.apart).2.2.2.1; omega
  have nB3 : ¬ r = B := by have := (H1.out.apart).2.2.2.2.2; omega
  have hgr : ¬ a.gW = r := hap.2.1
  have n4 : ¬ B = a.gW := fun e => nB1 e.symm
  have n5 : ¬ r = a.gW := fun e => hgr e.symm
  have hBl : B < w2.heap.size := hbx.lt
  have H3 := Lib.hid ((H2.out.setW p x.v HP.out).keep (Below.refl _ _).drew)
  have HBX3 := Lib.hid (show Blk (w2.setCell ⟨a.gW, p, none⟩ (.int .i64 x.v)).drew B 34 #[.int .i64 (p : Int), .int .i64 x.v] from (hbx.far n4 _).drew)
  clear hbx hb2 hap
  rw [← hB]
  go_upto_region 2 with fail
  try rw [hw2]
  clear hw2 hB HCT
  refine wp_region_held_drew (S := fun W => W.cell? ⟨r, 0, none⟩ = some (.slice (some ⟨a.gW, 0, none⟩) nw a.cW) ∧ W.cell? ⟨B, 0, none⟩ = some (.int .i64 (p : Int)) ∧ W.cell? ⟨B, 1, none⟩ = some (.int .i64 x.v)) (by kernel_rfl) ?_ (fun hHeldcr => ?_)
  · exact ⟨q0, b0, b1⟩
  refine tkW 0 { dst := some 16, op := Op.move (Operand.tmp 0), type := 68, pos := "stm.go:194", after := _, guard := none } (v := ?vcr0) rfl (Or.inl ⟨by rfl, ?hycr0⟩) ?restcr0
  case hycr0 => (intro w hSw; (try dsimp only at hSw); go_simp <;> with_reducible rfl)
  try simp only [putW, setZ, setS]
  refine tkW 1 { dst := some 17, op := Op.nilCheck (Operand.tmp 16), type := 0, pos := "stm.go:194", after := _, guard := none } (v := ?vcr1) rfl (Or.inl ⟨by rfl, ?hycr1⟩) ?restcr1
  case hycr1 => (intro w hSw; (try dsimp only at hSw); go_simp <;> with_reducible rfl)
  try simp only [putW, setZ, setS]
  refine tkW 2 { dst := some 18, op := Op.fieldAddr 70 (Operand.tmp 17) 0, type := 0, pos := "stm.go:194", after := _, guard := none } (v := ?vcr2) rfl (Or.inl ⟨by rfl, ?hycr2⟩) ?restcr2
  case hycr2 => (intro w hSw; (try dsimp only at hSw); go_simp <;> with_reducible rfl)
  try simp only [putW, setZ, setS]
  refine tkW 3 { dst := some 19, op := Op.fieldAddr 46 (Operand.tmp 18) 0, type := 0, pos := "stm.go:194", after := _, guard := none } (v := ?vcr3) rfl (Or.inl ⟨by rfl, ?hycr3⟩) ?restcr3
  case hycr3 => (intro w hSw; (try dsimp only at hSw); go_simp <;> with_reducible rfl)
  try simp only [putW, setZ, setS]
  refine tkW 4 { dst := some 20, op := Op.load 29 (Operand.tmp 19), type := 29, pos := "stm.go:194", after := _, guard := none } (v := ?vcr4) rfl (Or.inl ⟨by rfl, ?hycr4⟩) ?restcr4
  case hycr4 => (intro w hSw; (try dsimp only at hSw); go_simp <;> with_reducible rfl)
  try simp only [putW, setZ, setS]
  refine tkW 5 { dst := some 21, op := Op.fieldAddr 34 (Operand.tmp 3) 0, type := 0, pos := "stm.go:194", after := _, guard := none } (v := ?vcr5) rfl (Or.inl ⟨by rfl, ?hycr5⟩) ?restcr5
  case hycr5 => (intro w hSw; (try dsimp only at hSw); go_simp <;> with_reducible rfl)
  try simp only [putW, setZ, setS]
  refine tkW 6 { dst := some 22, op := Op.load 3 (Operand.tmp 21), type := 3, pos := "stm.go:194", after := _, guard := none } (v := ?vcr6) rfl (Or.inl ⟨by rfl, ?hycr6⟩) ?restcr6
  case hycr6 => (intro w hSw; (try dsimp only at hSw); go_simp <;> with_reducible rfl)
  try simp only [putW, setZ, setS]
  refine tkW 7 { dst := some 23, op := Op.fieldAddr 34 (Operand.tmp 3) 1, type := 0, pos := "stm.go:194", after := _, guard := none } (v := ?vcr7) rfl (Or.inl ⟨by rfl, ?hycr7⟩) ?restcr7
  case hycr7 => (intro w hSw; (try dsimp only at hSw); go_simp <;> with_reducible rfl)
  try simp only [putW, setZ, setS]
  refine tkW 8 { dst := some 24, op := Op.load 3 (Operand.tmp 23), type := 3, pos := "stm.go:194", after := _, guard := none } (v := ?vcr8) rfl (Or.inl ⟨by rfl, ?hycr8⟩) ?restcr8
  case hycr8 => (intro w hSw; (try dsimp only at hSw); go_simp <;> with_reducible rfl)
  try simp only [putW, setZ, setS]
  refine tkW 9 { dst := some 25, op := Op.indexAddr 29 (Operand.tmp 20) (Operand.tmp 22), type := 0, pos := "stm.go:194", after := _, guard := none } (v := ?vcr9) rfl (Or.inl ⟨by rfl, ?hycr9⟩) ?restcr9
  case hycr9 => (intro w hSw; (try dsimp only at hSw); go_simp <;> with_reducible rfl)
  try simp only [putW, setZ, setS]
  refine wpAnyH_ready (rs := [10]) (by kernel_rfl) (by simp) ?_
  refine AllReadyH.cons (o := { dst := none, op := Op.store 3 (Operand.tmp 25) (Operand.tmp 24), type := 0, pos := "stm.go:194", after := _, guard := none }) rfl (fun K hK => ?_) AllReadyH.nil
  go_simp
  skip
  refine hK.out _ _ ?_ (fun hHeldcr10 => ?_)
  · refine ⟨?_, ?_, ?_⟩ <;> go_simp
  clear hK K hHeldcr
  try simp only [Act.put, List.setIfInBounds_toArray, List.set_cons_zero, List.set_cons_succ]
  refine wpAnyH_done (by kernel_rfl) ?_ _
  obtain ⟨w3, hw3⟩ : ∃ y, (w2.setCell ⟨a.gW, p, none⟩ (.int .i64 x.v)).drew = y := ⟨_, rfl⟩
  rw [hw3] at H3 HBX3 ⊢
  clear hw3 q0 b0 b1 gw gf
  have b0 : w3.cell? ⟨B, 0, none⟩ = some (.int .i64 (p : Int)) := by rw [HBX3.out.cell]; rfl
  have q1 : w3.cell? ⟨r, 1, none⟩ = some (.int .i64 m.now) := H3.out.rcells 1
  have q2 : w3.cell? ⟨r, 2, none⟩ = some (.int .i64 m.mx) := H3.out.rcells 2
  have q3 : w3.cell? ⟨r, 3, none⟩ = some (.slice a.lA m.L.length a.lc) := H3.out.rcells 3
  have q10 : w3.cell? ⟨r, 10, none⟩ = some (.int .i64 (k : Int)) := H3.out.rcells 10
  have d5 := H3.out.tcells (t := t) HK.out (j := 5) rfl
  have HSS := Lib.hid (fun W (hb : Below w3.heap.size w3 W) => (show W.cell? ⟨B, 0, none⟩ = some (.int .i64 (p : Int)) ∧ W.cell? ⟨r, 10, none⟩ = some (.int .i64 (k : Int)) ∧ W.cell? ⟨a.gT, k * 11 + 5, none⟩ = some (.int .i64 t.wv) from
    ⟨(hb.cell (p := ⟨B, 0, none⟩) HBX3.out.lt).trans b0, (H3.out.keep hb).rcells 10, (H3.out.keep hb).tcells (t := t) HK.out (j := 5) rfl⟩))
  have hrl3 : r < w3.heap.size := H3.out.run.lt
  clear b0 q10 d5
  go_wp2_with fail
  refine wp_region_held_drew (S := fun W => W.cell? ⟨B, 0, none⟩ = some (.int .i64 (p : Int)) ∧ W.cell? ⟨r, 10, none⟩ = some (.int .i64 (k : Int)) ∧ W.cell? ⟨a.gT, k * 11 + 5, none⟩ = some (.int .i64 t.wv)) (by kernel_rfl) ?_ (fun hHelddr => ?_)
  · exact HSS.out _ (Below.refl _ _).drew
  refine tkW 0 { dst := some 27, op := Op.move (Operand.tmp 0), type := 68, pos := "stm.go:195", after := _, guard := none } (v := ?vdr0b1) rfl (Or.inl ⟨by rfl, ?hydr0b1⟩) ?restdr0b1
  case hydr0b1 => (intro w hSw; (try dsimp only at hSw); go_simp <;> with_reducible rfl)
  try simp only [putW, setZ, setS]
  refine tkW 1 { dst := some 28, op := Op.move (Operand.tmp 0), type := 68, pos := "stm.go:195", after := _, guard := none } (v := ?vdr1b2) rfl (Or.inl ⟨by rfl, ?hydr1b2⟩) ?restdr1b2
  case hydr1b2 => (intro w hSw; (try dsimp only at hSw); go_simp <;> with_reducible rfl)
  try simp only [putW, setZ, setS]
  refine tkW 2 { dst := some 29, op := Op.nilCheck (Operand.tmp 28), type := 0, pos := "stm.go:195", after := _, guard := none } (v := ?vdr2b3) rfl (Or.inl ⟨by rfl, ?hydr2b3⟩) ?restdr2b3
  case hydr2b3 => (intro w hSw; (try dsimp only at hSw); go_simp <;> with_reducible rfl)
  try simp only [putW, setZ, setS]
  refine tkW 3 { dst := some 30, op := Op.fieldAddr 70 (Operand.tmp 29) 0, type := 0, pos := "stm.go:195", after := _, guard := none } (v := ?vdr3b4) rfl (Or.inl ⟨by rfl, ?hydr3b4⟩) ?restdr3b4
  case hydr3b4 => (intro w hSw; (try dsimp only at hSw); go_simp <;> with_reducible rfl)
  try simp only [putW, setZ, setS]
  refine tkW 4 { dst := some 31, op := Op.fieldAddr 46 (Operand.tmp 30) 1, type := 0, pos := "stm.go:195", after := _, guard := none } (v := ?vdr4b5) rfl (Or.inl ⟨by rfl, ?hydr4b5⟩) ?restdr4b5
  case hydr4b5 => (intro w hSw; (try dsimp only at hSw); go_simp <;> with_reducible rfl)
  try simp only [putW, setZ, setS]
  refine tkW 6 { dst := some 33, op := Op.fieldAddr 34 (Operand.tmp 3) 0, type := 0, pos := "stm.go:195", after := _, guard := none } (v := ?vdr6b6) rfl (Or.inl ⟨by rfl, ?hydr6b6⟩) ?restdr6b6
  case hydr6b6 => (intro w hSw; (try dsimp only at hSw); go_simp <;> with_reducible rfl)
  try simp only [putW, setZ, setS]
  refine tkW 7 { dst := some 34, op := Op.load 3 (Operand.tmp 33), type := 3, pos := "stm.go:195", after := _, guard := none } (v := ?vdr7b7) rfl (Or.inl ⟨by rfl, ?hydr7b7⟩) ?restdr7b7
  case hydr7b7 => (intro w hSw; (try dsimp only at hSw); go_simp <;> with_reducible rfl)
  try simp only [putW, setZ, setS]
  refine tkW 8 { dst := some 35, op := Op.move (Operand.tmp 0), type := 68, pos := "stm.go:195", after := _, guard := none } (v := ?vdr8b8) rfl (Or.inl ⟨by rfl, ?hydr8b8⟩) ?restdr8b8
  case hydr8b8 => (intro w hSw; (try dsimp only at hSw); go_simp <;> with_reducible rfl)
  try simp only [putW, setZ, setS]
  refine tkW 9 { dst := some 36, op := Op.nilCheck (Operand.tmp 35), type := 0, pos := "stm.go:195", after := _, guard := none } (v := ?vdr9b9) rfl (Or.inl ⟨by rfl, ?hydr9b9⟩) ?restdr9b9
  case hydr9b9 => (intro w hSw; (try dsimp only at hSw); go_simp <;> with_reducible rfl)
  try simp only [putW, setZ, setS]
  refine tkW 10 { dst := some 37, op := Op.fieldAddr 70 (Operand.tmp 36) 2, type := 0, pos := "stm.go:195", after := _, guard := none } (v := ?vdr10b10) rfl (Or.inl ⟨by rfl, ?hydr10b10⟩) ?restdr10b10
  case hydr10b10 => (intro w hSw; (try dsimp only at hSw); go_simp <;> with_reducible rfl)
  try simp only [putW, setZ, setS]
  refine tkW 11 { dst := some 38, op := Op.load 3 (Operand.tmp 37), type := 3, pos := "stm.go:195", after := _, guard := none } (v := ?vdr11b11) rfl (Or.inl ⟨by rfl, ?hydr11b11⟩) ?restdr11b11
  case hydr11b11 => (intro w hSw; (try dsimp only at hSw); go_simp <;> with_reducible rfl)
  try simp only [putW, setZ, setS]
  refine tkW 12 { dst := some 39, op := Op.move (Operand.tmp 2), type := 84, pos := "stm.go:195", after := _, guard := none } (v := ?vdr12b12) rfl (Or.inl ⟨by rfl, ?hydr12b12⟩) ?restdr12b12
  case hydr12b12 => (intro w hSw; (try dsimp only at hSw); go_simp <;> with_reducible rfl)
  try simp only [putW, setZ, setS]
  refine tkW 13 { dst := some 40, op := Op.nilCheck (Operand.tmp 39), type := 0, pos := "stm.go:195", after := _, guard := none } (v := ?vdr13b13) rfl (Or.inl ⟨by rfl, ?hydr13b13⟩) ?restdr13b13
  case hydr13b13 => (intro w hSw; (try dsimp only at hSw); go_simp <;> with_reducible rfl)
  try simp only [putW, setZ, setS]
  refine tkW 14 { dst := some 41, op := Op.fieldAddr 52 (Operand.tmp 40) 5, type := 0, pos := "stm.go:195", after := _, guard := none } (v := ?vdr14b14) rfl (Or.inl ⟨by rfl, ?hydr14b14⟩) ?restdr14b14
  case hydr14b14 => (intro w hSw; (try dsimp only at hSw); go_simp <;> with_reducible rfl)
  try simp only [putW, setZ, setS]
  refine tkW 15 { dst := some 42, op := Op.load 3 (Operand.tmp 41), type := 3, pos := "stm.go:195", after := _, guard := none } (v := ?vdr15b15) rfl (Or.inl ⟨by rfl, ?hydr15b15⟩) ?restdr15b15
  case hydr15b15 => (intro w hSw; (try dsimp only at hSw); go_simp <;> with_reducible rfl)
  try simp only [putW, setZ, setS]
  refine wpAnyH_ready (rs := [5]) (by kernel_rfl) (by simp) ?_
  refine AllReadyH.cons (o := { dst := some 32, op := Op.load 43 (Operand.tmp 31), type := 43, pos := "stm.go:195", after := _, guard := none }) rfl (fun K hK => ?_) AllReadyH.nil
  go_simp
  skip
  refine hK.out _ _ ?_ (fun hHelddr5b16 => ?_)
  · exact HSS.out _ (Below.refl _ _).drew
  clear hK K hHelddr
  try simp only [Act.put, List.setIfInBounds_toArray, List.set_cons_zero, List.set_cons_succ]
  refine wpAnyH_ready (rs := [16]) (by kernel_rfl) (by simp) ?_
  refine AllReadyH.cons (o := { dst := some 43, op := Op.call { callee := Callee.value (Operand.func 62), args := #[Operand.tmp 32, Operand.tmp 34, Operand.tmp 38, Operand.tmp 42], argTypes := #[43, 3, 3, 3] }, type := 98, pos := "stm.go:195", after := _, guard := none }) rfl (fun K hK => ?_) AllReadyH.nil
  go_simp
  refine (HGV.out _ _ _ _ (H3.out.keep (Below.refl _ _).drew) rfl rfl rfl).mono ?_
  rintro e w4 ⟨v4, rfl, ⟨sv4, rfl, hrow4⟩, hb4⟩
  dsimp only at hrow4 ⊢
  obtain ⟨A4, c4, rfl, _, _⟩ := (Sl.of_own hrow4).form
  rw [HLL.out] at hrow4 ⊢
  have hX : Below w3.heap.size w3 w4 := (Below.refl _ _).drew.trans hb4
  have z1 := (hX.cell (p := ⟨r, 1, none⟩) hrl3).trans q1
  have z2 := (hX.cell (p := ⟨r, 2, none⟩) hrl3).trans q2
  have z3 := (hX.cell (p := ⟨r, 3, none⟩) hrl3).trans q3
  have HX := Lib.hid hX
  have H4 := Lib.hid (H3.out.keep hX)
  have zf1 := H4.out.run.free 1
  have zf2 := H4.out.run.free 2
  have zf3 := H4.out.run.free 3
  have hR5 := H4.out.setC (now := m.now) (mx := m.mx) (L := L') (A := A4) (c := c4) (by rw [HLL.out]; exact ownsRow_mono hrow4 (by have h1 := H3.out.base.size; simp; omega))
  rw [HLL.out] at hR5
  have HR5 := Lib.hid hR5
  have HB4 := Lib.hid (HBX3.out.keep hX)
  clear hX hrow4 hb4 hR5
  try go_wp2_with fail
  refine hK.out _ _ ?_ (fun hHelddr16b17 => ?_)
  · exact HSS.out _ HX.out
  clear hK K hHelddr5b16
  try simp only [Act.put, List.setIfInBounds_toArray, List.set_cons_zero, List.set_cons_succ]
  refine tkW 17 { dst := some 26, op := Op.move (Operand.tmp 43), type := 98, pos := "stm.go:195", after := _, guard := none } (v := ?vdr17b18) rfl (Or.inl ⟨by rfl, ?hydr17b18⟩) ?restdr17b18
  case hydr17b18 => (intro w hSw; (try dsimp only at hSw); go_simp <;> with_reducible rfl)
  try simp only [putW, setZ, setS]
  refine tkW 18 { dst := some 44, op := Op.extract (Operand.tmp 26) 0, type := 43, pos := "stm.go:195", after := _, guard := none } (v := ?vdr18b19) rfl (Or.inl ⟨by rfl, ?hydr18b19⟩) ?restdr18b19
  case hydr18b19 => (intro w hSw; (try dsimp only at hSw); go_simp <;> with_reducible rfl)
  try simp only [putW, setZ, setS]
  refine tkW 19 { dst := some 45, op := Op.extract (Operand.tmp 26) 1, type := 97, pos := "stm.go:195", after := _, guard := none } (v := ?vdr19b20) rfl (Or.inl ⟨by rfl, ?hydr19b20⟩) ?restdr19b20
  case hydr19b20 => (intro w hSw; (try dsimp only at hSw); go_simp <;> with_reducible rfl)
  try simp only [putW, setZ, setS]
  refine tkW 20 { dst := some 46, op := Op.nilCheck (Operand.tmp 27), type := 0, pos := "stm.go:195", after := _, guard := none } (v := ?vdr20b21) rfl (Or.inl ⟨by rfl, ?hydr20b21⟩) ?restdr20b21
  case hydr20b21 => (intro w hSw; (try dsimp only at hSw); go_simp <;> with_reducible rfl)
  try simp only [putW, setZ, setS]
  refine tkW 21 { dst := some 47, op := Op.fieldAddr 70 (Operand.tmp 46) 0, type := 0, pos := "stm.go:195", after := _, guard := none } (v := ?vdr21b22) rfl (Or.inl ⟨by rfl, ?hydr21b22⟩) ?restdr21b22
  case hydr21b22 => (intro w hSw; (try dsimp only at hSw); go_simp <;> with_reducible rfl)
  try simp only [putW, setZ, setS]
  refine tkW 22 { dst := some 48, op := Op.fieldAddr 46 (Operand.tmp 47) 1, type := 0, pos := "stm.go:195", after := _, guard := none } (v := ?vdr22b23) rfl (Or.inl ⟨by rfl, ?hydr22b23⟩) ?restdr22b23
  case hydr22b23 => (intro w hSw; (try dsimp only at hSw); go_simp <;> with_reducible rfl)
  try simp only [putW, setZ, setS]
  refine wpAnyH_ready (rs := [23]) (by kernel_rfl) (by simp) ?_
  refine AllReadyH.cons (o := { dst := none, op := Op.store 43 (Operand.tmp 48) (Operand.tmp 44), type := 0, pos := "stm.go:195", after := _, guard := none }) rfl (fun K hK => ?_) AllReadyH.nil
  go_simp
  skip
  refine hK.out _ _ ?_ (fun hHelddr23b24 => ?_)
  · exact ⟨by rw [(((HB4.out.far (p := ⟨r, 1, none⟩) (fun e => nB3 e.symm) _).far (p := ⟨r, 2, none⟩) (fun e => nB3 e.symm) _).far (p := ⟨r, 3, none⟩) (fun e => nB3 e.symm) _).cell]; rfl, HR5.out.rcells 10, HR5.out.tcells (t := t) HK.out (j := 5) rfl⟩
  clear hK K hHelddr16b17
  try simp only [Act.put, List.setIfInBounds_toArray, List.set_cons_zero, List.set_cons_succ]
  refine wpAnyH_done (by kernel_rfl) ?_ _
  obtain ⟨w5, hw5⟩ : ∃ y, ((w4.setCell ⟨r, 1, none⟩ (.int .i64 m.now)).setCell ⟨r, 2, none⟩ (.int .i64 m.mx)).setCell ⟨r, 3, none⟩ (.slice A4 m.L.length c4) = y := ⟨_, rfl⟩
  rw [hw5] at HR5 ⊢
  clear hw5 z1 z2 z3 zf1 zf2 zf3 q1 q2 q3
  have hR5 := HR5.out
  have d9 : w5.cell? ⟨a.gT, k * 11 + 9, none⟩ = some (.int .i64 (j : Int)) := by have e := hR5.tcells (t := t) HK.out (j := 9) rfl; rw [HI.out] at e; exact e
  have d8 : w5.cell? ⟨a.gT, k * 11 + 8, none⟩ = some (.slice (some ⟨b, 0, none⟩) n t.wc) := by have e := hR5.tcells (t := t) HK.out (j := 8) rfl; rw [HBA.out, ← HN.out] at e; exact e
  have f9 : w5.frozen? ⟨a.gT, k * 11 + 9, none⟩ = false := hR5.tfree (k * 11 + 9)
  have hlt := H1.out.tlt HK.out
  have h6 := RunW.tc (m := { m with W := m.W.set p x.v, L := L' }) (t := t) (hR5.tc0 (t := t) HK.out) hlt { t with i := t.i + 1 } (j := 9) (u := .int .i64 ((j : Int) + 1)) (by omega) (by simp [encTx, HI.out]) ⟨rfl, rfl, rfl, rfl, rfl, rfl⟩
  have H6 := Lib.hid h6
  clear hR5 h6
  go_upto_region 5 with fail
  by_cases hl : j + 1 = n
  · have hlz : (n : Int) = (j : Int) + 1 := by omega
    refine wp_region_held_drew (S := fun W => W.cell? ⟨a.gT, k * 11 + 8, none⟩ = some (.slice (some ⟨b, 0, none⟩) n t.wc) ∧ W.cell? ⟨a.gT, k * 11 + 9, none⟩ = some (.int .i64 ((j : Int) + 1))) (by kernel_rfl) ?_ (fun hHelder => ?_)
    · constructor <;> go_simp
    refine tkW 0 { dst := some 56, op := Op.move (Operand.tmp 2), type := 84, pos := "stm.go:196", after := _, guard := none } (v := ?ver0) rfl (Or.inl ⟨by rfl, ?hyer0⟩) ?rester0
    case hyer0 => (intro w hSw; (try dsimp only at hSw); go_simp <;> with_reducible rfl)
    try simp only [putW, setZ, setS]
    refine tkW 1 { dst := some 57, op := Op.nilCheck (Operand.tmp 56), type := 0, pos := "stm.go:196", after := _, guard := none } (v := ?ver1) rfl (Or.inl ⟨by rfl, ?hyer1⟩) ?rester1
    case hyer1 => (intro w hSw; (try dsimp only at hSw); go_simp <;> with_reducible rfl)
    try simp only [putW, setZ, setS]
    refine tkW 2 { dst := some 58, op := Op.fieldAddr 52 (Operand.tmp 57) 9, type := 0, pos := "stm.go:196", after := _, guard := none } (v := ?ver2) rfl (Or.inl ⟨by rfl, ?hyer2⟩) ?rester2
    case hyer2 => (intro w hSw; (try dsimp only at hSw); go_simp <;> with_reducible rfl)
    try simp only [putW, setZ, setS]
    refine tkW 3 { dst := some 59, op := Op.load 3 (Operand.tmp 58), type := 3, pos := "stm.go:196", after := _, guard := none } (v := ?ver3) rfl (Or.inl ⟨by rfl, ?hyer3⟩) ?rester3
    case hyer3 => (intro w hSw; (try dsimp only at hSw); go_simp <;> with_reducible rfl)
    try simp only [putW, setZ, setS]
    refine tkW 4 { dst := some 60, op := Op.move (Operand.tmp 2), type := 84, pos := "stm.go:196", after := _, guard := none } (v := ?ver4) rfl (Or.inl ⟨by rfl, ?hyer4⟩) ?rester4
    case hyer4 => (intro w hSw; (try dsimp only at hSw); go_simp <;> with_reducible rfl)
    try simp only [putW, setZ, setS]
    refine tkW 5 { dst := some 61, op := Op.nilCheck (Operand.tmp 60), type := 0, pos := "stm.go:196", after := _, guard := none } (v := ?ver5) rfl (Or.inl ⟨by rfl, ?hyer5⟩) ?rester5
    case hyer5 => (intro w hSw; (try dsimp only at hSw); go_simp <;> with_reducible rfl)
    try simp only [putW, setZ, setS]
    refine tkW 6 { dst := some 62, op := Op.fieldAddr 52 (Operand.tmp 61) 8, type := 0, pos := "stm.go:196", after := _, guard := none } (v := ?ver6) rfl (Or.inl ⟨by rfl, ?hyer6⟩) ?rester6
    case hyer6 => (intro w hSw; (try dsimp only at hSw); go_simp <;> with_reducible rfl)
    try simp only [putW, setZ, setS]
    refine tkW 7 { dst := some 63, op := Op.load 25 (Operand.tmp 62), type := 25, pos := "stm.go:196", after := _, guard := none } (v := ?ver7) rfl (Or.inl ⟨by rfl, ?hyer7⟩) ?rester7
    case hyer7 => (intro w hSw; (try dsimp only at hSw); go_simp <;> with_reducible rfl)
    try simp only [putW, setZ, setS]
    refine tkW 8 { dst := some 64, op := Op.call { callee := Callee.builtin Builtin.len, args := #[Operand.tmp 63], argTypes := #[25] }, type := 3, pos := "stm.go:196", after := _, guard := none } (v := ?ver8) rfl (Or.inl ⟨by rfl, ?hyer8⟩) ?rester8
    case hyer8 => (intro w hSw; (try dsimp only at hSw); go_simp <;> with_reducible rfl)
    try simp only [putW, setZ, setS]
    refine tkW 9 { dst := some 65, op := Op.binOp BinOp.eql 3 (Operand.tmp 59) (Operand.tmp 64) 3, type := 4, pos := "stm.go:196", after := _, guard := none } (v := .bool true) rfl (Or.inl ⟨by rfl, ?hyer9⟩) ?rester9
    case hyer9 => (intro w hSw; (try dsimp only at hSw); go_simp <;> first | done | with_reducible rfl | omega | (simp; done) | (simp; omega) | (simp [*]; done) | (simp [*]; omega) | exact decide_eq_false (by omega) | exact decide_eq_true (by omega))
    try simp only [putW, setZ, setS]
    refine wpAnyH_done (by kernel_rfl) ?_ _
    have HO := Lib.hid (over_any (t := { t with i := t.i + 1 }) (H6.out.keep (Below.refl _ _).drew) (RunW.set_at k (m := { m with W := m.W.set p x.v, L := L' }) (t := t) HK.out _) 0 htx)
    go_wp2_with fail
    refine HO.out.mono ?_
    rintro e w7 ⟨rfl, h7⟩
    have H7 := Lib.hid h7
    clear h7
    go_wp2
    go_end0
    refine ⟨rfl, _, _, _, H7.out, ?_⟩
    rw [HS.out, if_pos (by rw [HI.out, ← HN.out]; exact hlz.symm)]
    unfold overM
    simp only [List.set_set]
    rfl
  · have hlz : ¬ (j : Int) + 1 = (n : Int) := by omega
    refine wp_region_held_drew (S := fun W => W.cell? ⟨a.gT, k * 11 + 8, none⟩ = some (.slice (some ⟨b, 0, none⟩) n t.wc) ∧ W.cell? ⟨a.gT, k * 11 + 9, none⟩ = some (.int .i64 ((j : Int) + 1))) (by kernel_rfl) ?_ (fun hHeldfr => ?_)
    · constructor <;> go_simp
    refine tkW 0 { dst := some 56, op := Op.move (Operand.tmp 2), type := 84, pos := "stm.go:196", after := _, guard := none } (v := ?vfr0) rfl (Or.inl ⟨by rfl, ?hyfr0⟩) ?restfr0
    case hyfr0 => (intro w hSw; (try dsimp only at hSw); go_simp <;> with_reducible rfl)
    try simp only [putW, setZ, setS]
    refine tkW 1 { dst := some 57, op := Op.nilCheck (Operand.tmp 56), type := 0, pos := "stm.go:196", after := _, guard := none } (v := ?vfr1) rfl (Or.inl ⟨by rfl, ?hyfr1⟩) ?restfr1
    case hyfr1 => (intro w hSw; (try dsimp only at hSw); go_simp <;> with_reducible rfl)
    try simp only [putW, setZ, setS]
    refine tkW 2 { dst := some 58, op := Op.fieldAddr 52 (Operand.tmp 57) 9, type := 0, pos := "stm.go:196", after := _, guard := none } (v := ?vfr2) rfl (Or.inl ⟨by rfl, ?hyfr2⟩) ?restfr2
    case hyfr2 => (intro w hSw; (try dsimp only at hSw); go_simp <;> with_reducible rfl)
    try simp only [putW, setZ, setS]
    refine tkW 3 { dst := some 59, op := Op.load 3 (Operand.tmp 58), type := 3, pos := "stm.go:196", after := _, guard := none } (v := ?vfr3) rfl (Or.inl ⟨by rfl, ?hyfr3⟩) ?restfr3
    case hyfr3 => (intro w hSw; (try dsimp only at hSw); go_simp <;> with_reducible rfl)
    try simp only [putW, setZ, setS]
    refine tkW 4 { dst := some 60, op := Op.move (Operand.tmp 2), type := 84, pos := "stm.go:196", after := _, guard := none } (v := ?vfr4) rfl (Or.inl ⟨by rfl, ?hyfr4⟩) ?restfr4
    case hyfr4 => (intro w hSw; (try dsimp only at hSw); go_simp <;> with_reducible rfl)
    try simp only [putW, setZ, setS]
    refine tkW 5 { dst := some 61, op := Op.nilCheck (Operand.tmp 60), type := 0, pos := "stm.go:196", after := _, guard := none } (v := ?vfr5) rfl (Or.inl ⟨by rfl, ?hyfr5⟩) ?restfr5
    case hyfr5 => (intro w hSw; (try dsimp only at hSw); go_simp <;> with_reducible rfl)
    try simp only [putW, setZ, setS]
    refine tkW 6 { dst := some 62, op := Op.fieldAddr 52 (Operand.tmp 61) 8, type := 0, pos := "stm.go:196", after := _, guard := none } (v := ?vfr6) rfl (Or.inl ⟨by rfl, ?hyfr6⟩) ?restfr6
    case hyfr6 => (intro w hSw; (try dsimp only at hSw); go_simp <;> with_reducible rfl)
    try simp only [putW, setZ, setS]
    refine tkW 7 { dst := some 63, op := Op.load 25 (Operand.tmp 62), type := 25, pos := "stm.go:196", after := _, guard := none } (v := ?vfr7) rfl (Or.inl ⟨by rfl, ?hyfr7⟩) ?restfr7
    case hyfr7 => (intro w hSw; (try dsimp only at hSw); go_simp <;> with_reducible rfl)
    try simp only [putW, setZ, setS]
    refine tkW 8 { dst := some 64, op := Op.call { callee := Callee.builtin Builtin.len, args := #[Operand.tmp 63], argTypes := #[25] }, type := 3, pos := "stm.go:196", after := _, guard := none } (v := ?vfr8) rfl (Or.inl ⟨by rfl, ?hyfr8⟩) ?restfr8
    case hyfr8 => (intro w hSw; (try dsimp only at hSw); go_simp <;> with_reducible rfl)
    try simp only [putW, setZ, setS]
    refine tkW 9 { dst := some 65, op := Op.binOp BinOp.eql 3 (Operand.tmp 59) (Operand.tmp 64) 3, type := 4, pos := "stm.go:196", after := _, guard := none } (v := .bool false) rfl (Or.inl ⟨by rfl, ?hyfr9⟩) ?restfr9
    case hyfr9 => (intro w hSw; (try dsimp only at hSw); go_simp <;> first | done | with_reducible rfl | omega | (simp; done) | (simp; omega) | (simp [*]; done) | (simp [*]; omega) | exact decide_eq_false (by omega) | exact decide_eq_true (by omega))
    try simp only [putW, setZ, setS]
    refine wpAnyH_done (by kernel_rfl) ?_ _
    go_wp2
    go_end0
    refine ⟨rfl, _, _, _, H6.out.keep (Below.refl _ _).drew, ?_⟩
    rw [HS.out, if_neg (by rw [HI.out, ← HN.out]; exact hlz)]
end
end Go.Proofs.Ytmcbnpeihedcaaa
