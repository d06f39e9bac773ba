/- tell: a try is told; end: told, and over. -/
import Derived.Test.YtmcbnpeihedcaaaStBegin
namespace Go.Proofs.Ytmcbnpeihedcaaa
set_option linter.unusedSimpArgs false
open Go Go.RowKit
set_option linter.unusedVariables false
set_option maxRecDepth 100000

theorem rec_info : (Try.prog.info? 27).map (fun i => (i.zero, i.size, i.bytes)) = some (some (.agg #[.int .i64 0, .int .i64 0, .int .i64 0, .int .i64 0, .int .i64 0, .int .i64 0, .slice none 0 0, .slice none 0 0, .int .i64 0, .int .i64 0]), 10, 112) := by kernel_rfl

section
variable {w0 w w' : World} {r : Nat} {φ : Nat → Nat} {a : Ad} {m : Mm} {pw pm : Int} {pv : Value}

/-- A new row of pairs has the mark 0. -/
theorem new_tag {w5 : World} {A : Option Addr} {c B tag : Nat} {l : List Pr} (h : PRow w5 B A c l) : Tg (fun g => if g < B then φ g else tag) tag A := fun b hb => by
  show (if b.block < B then φ b.block else tag) = tag
  rw [if_neg (by have := (h.lt hb).2; omega)]
theorem PRow.mono {B B' : Nat} {A : Option Addr} {c : Nat} {l : List Pr} (h : PRow w B A c l) (hb : B' ≤ B) : PRow w B' A c l := ownsRow_mono h hb

theorem prow_len {B n : Nat} {A : Option Addr} {c : Nat} {l : List Pr} (h : w.ownsRow B 34 2 (.slice A n c) n (l.flatMap encPr)) (hn : l.length = n) : PRow w B A c l := by subst hn; exact h

/-- What tell leaves. -/
def TellPost (w0 : World) (r : Nat) (a : Ad) (m : Mm) (k : Nat) (t : Tx) (how : Int) (pw pm : Int) (pv : Value) (e : Ending) (w' : World) : Prop :=
  e = .returned (.tuple #[]) ∧ ∃ φ' A c x, RunW w0 w' r φ' { a with hA := A, hc := c } { m with H := m.H ++ [x] } pw pm pv (k : Int) ∧ erX x = tellR m k t how

theorem tell_end {w1 w5 w6 w7 : World} {k : Nat} {t : Tx} {how : Int} {A5 A6 A7 : Option Addr} {c5 c6 c7 : Nat} {wz : World} (h : RunW w0 w1 r φ a m pw pm pv (k : Int)) (hx5 : Below w1.heap.size w1 w5) (hx6 : Below w5.heap.size w5 w6) (ho5 : PRow w5 w1.heap.size A5 c5 t.R) (ho6 : PRow w6 w5.heap.size A6 c6 t.W)
    (hz : Below w6.heap.size w6 wz) (hg : wz.grownBy w7 (Value.slice a.hA m.H.length a.hc).ownBlock) {xx : Rx} (hxx : xx = { tellR m k t how with rA := A5, rc := c5, wA := A6, wc := c6 })
    (ho : w7.ownsRow w0.heap.size 27 10 (.slice A7 (m.H.length + 1) c7) (m.H.length + 1) (m.H.flatMap encRx ++ encRx xx)) :
    TellPost w0 r a m k t how pw pm pv (.returned (.tuple #[])) (w7.setCell ⟨r, 5, none⟩ (.slice A7 (m.H.length + 1) c7)) := by
  have hx1z : Below w1.heap.size w1 wz := (hx5.trans (hx6.mono hx5.size)).trans (hz.mono (Nat.le_trans hx5.size hx6.size))
  have hR := (h.keep hx1z).retag (φ' := fun g => if g < w1.heap.size then φ g else 0)
  have h1 := (h.retag (φ' := fun g => if g < w1.heap.size then φ g else 0) (fun g hg => if_pos hg)).keep hx1z
  have h5z := (hx6.trans (hz.mono hx6.size))
  have p5 : PRow wz w1.heap.size A5 c5 t.R := ho5.keep h5z
  have p6 : PRow wz w1.heap.size A6 c6 t.W := (ho6.keep hz).mono hx5.size
  have hx : HxOk wz w0.heap.size (fun g => if g < w1.heap.size then φ g else 0) xx := by
    subst hxx
    exact ⟨p5.mono h.base.size, p6.mono h.base.size, new_tag p5, new_tag p6⟩
  refine ⟨rfl, _, _, _, xx, h1.addH hx hg ho, ?_⟩
  subst hxx
  rfl

/-- Behind an append to the tries told, the run and its threads are as they were. -/
theorem RunW.hfar {who : Int} (h : RunW w0 w r φ a m pw pm pv who) {w1 : World} (hg : w.grownBy w1 (Value.slice a.hA m.H.length a.hc).ownBlock) :
    (∀ o, w1.cell? ⟨a.gT, o, none⟩ = w.cell? ⟨a.gT, o, none⟩) ∧ ∀ o, w1.cell? ⟨r, o, none⟩ = w.cell? ⟨r, o, none⟩ ∧ w1.frozen? ⟨r, o, none⟩ = w.frozen? ⟨r, o, none⟩ := by
  obtain ⟨_, hlt, _, _, ct, hT⟩ := own_blk h.trow
  have n1 : some a.gT ≠ (Value.slice a.hA m.H.length a.hc).ownBlock := fun e => own_ne h.hrow hT (by decide) e.symm
  have n2 : some r ≠ (Value.slice a.hA m.H.length a.hc).ownBlock := fun e => own_ne h.hrow h.run (by decide) e.symm
  exact ⟨fun o => hg.cell_far ⟨a.gT, o, none⟩ hlt n1, fun o => ⟨hg.cell_far ⟨r, o, none⟩ h.run.lt n2, hg.frozen_far ⟨r, o, none⟩ h.run.lt n2⟩⟩

set_option maxHeartbeats 4000000 in
theorem tell_any {k : Nat} {t : Tx} (h : RunW w0 w r φ a m pw pm pv (k : Int)) (hk : m.T[k]? = some t) (how : Int) (hH : m.H.length ≤ 1000) (hR : t.R.length ≤ 1000) (hW : t.W.length ≤ 1000) :
    Calls Try.prog 60 #[.pointer (some ⟨r, 0, none⟩), .int .i64 how] w (TellPost w0 r a m k t how pw pm pv) := by
  have HME := Lib.hid (me_any h hk)
  have hT := h.apart.2.2.2.1
  have hRr := h.apart.2.2.2.2.2
  have HH := Lib.hid h
  have HK := Lib.hid hk
  obtain ⟨i0, hi0, hz0, hz1, hz2⟩ := info_parts rec_info
  clear h hk
  go_enter Try.func60, Try.ntmps60
  go_wp2_with fail
  refine HME.out.mono ?_
  rintro e w1 ⟨rfl, hb1⟩
  have H1 := Lib.hid (HH.out.keep hb1)
  have hzz1 := hb1.size
  have hT1 : a.gT < w1.heap.size := by omega
  have hR1 : r < w1.heap.size := by omega
  have d1 := H1.out.tcells HK.out (j := 1) rfl
  have d2 := H1.out.tcells HK.out (j := 2) rfl
  have d4 := H1.out.tcells HK.out (j := 4) rfl
  have d5 := H1.out.tcells HK.out (j := 5) rfl
  have d7 := H1.out.tcells HK.out (j := 7) rfl
  have d8 := H1.out.tcells HK.out (j := 8) rfl
  have d10 := H1.out.tcells HK.out (j := 10) rfl
  have r5 : w1.cell? ⟨r, 5, none⟩ = some (.slice a.hA m.H.length a.hc) := H1.out.rcells 5
  have r6 : w1.cell? ⟨r, 6, none⟩ = some (.int .i64 m.time) := H1.out.rcells 6
  have r10 : w1.cell? ⟨r, 10, none⟩ = some (.int .i64 (k : Int)) := H1.out.rcells 10
  have HSR := Lib.hid (fun W (hb : Below w1.heap.size w1 W) => clone_pair (.slice t.rA t.R.length t.rc) t.R.length _ W (Sl.of_own ((H1.out.keep hb).ts k t HK.out).R) (encPr_one _) (by omega))
  have HSW := Lib.hid (fun W (hb : Below w1.heap.size w1 W) => clone_pair (.slice t.wA t.W.length t.wc) t.W.length _ W (Sl.of_own ((H1.out.keep hb).ts k t HK.out).W) (encPr_one _) (by omega))
  have HC := Lib.hid (fun W (hb : Below w1.heap.size w1 W) => (show W.cell? ⟨a.gT, k * 11 + 1, none⟩ = some (.int .i64 t.tx) ∧ W.cell? ⟨a.gT, k * 11 + 2, none⟩ = some (.int .i64 t.try_) ∧ W.cell? ⟨a.gT, k * 11 + 4, none⟩ = some (.int .i64 t.rv) ∧ W.cell? ⟨a.gT, k * 11 + 5, none⟩ = some (.int .i64 t.wv) ∧ W.cell? ⟨a.gT, k * 11 + 7, none⟩ = some (.slice t.rA t.R.length t.rc) ∧ W.cell? ⟨a.gT, k * 11 + 8, none⟩ = some (.slice t.wA t.W.length t.wc) ∧ W.cell? ⟨a.gT, k * 11 + 10, none⟩ = some (.int .i64 t.fr) ∧ W.cell? ⟨r, 6, none⟩ = some (.int .i64 m.time) ∧ W.cell? ⟨r, 10, none⟩ = some (.int .i64 (k : Int)) from
    ⟨(H1.out.keep hb).tcells HK.out (j := 1) rfl, (H1.out.keep hb).tcells HK.out (j := 2) rfl, (H1.out.keep hb).tcells HK.out (j := 4) rfl, (H1.out.keep hb).tcells HK.out (j := 5) rfl, (H1.out.keep hb).tcells HK.out (j := 7) rfl, (H1.out.keep hb).tcells HK.out (j := 8) rfl, (H1.out.keep hb).tcells HK.out (j := 10) rfl, (H1.out.keep hb).rcells 6, (H1.out.keep hb).rcells 10⟩))
  have HRW := Lib.hid (fun W (hb : Below w1.heap.size w1 W) => H1.out.keep hb)
  have HBS := Lib.hid (H1.out.base.size)
  clear hb1 HH HME d1 d2 d4 d5 d7 d8 d10 r6 r10
  generalize hnR : t.R.length = nR at *
  generalize hnW : t.W.length = nW at *
  have HNR := Lib.hid hnR
  have HNW := Lib.hid hnW
  clear hnR hnW
  go_wp2_with fail
  refine wp_region_held_drew (S := fun W => W.cell? ⟨a.gT, k * 11 + 1, none⟩ = some (.int .i64 t.tx) ∧ W.cell? ⟨a.gT, k * 11 + 2, none⟩ = some (.int .i64 t.try_) ∧ W.cell? ⟨a.gT, k * 11 + 4, none⟩ = some (.int .i64 t.rv) ∧ W.cell? ⟨a.gT, k * 11 + 5, none⟩ = some (.int .i64 t.wv) ∧ W.cell? ⟨a.gT, k * 11 + 7, none⟩ = some (.slice t.rA nR t.rc) ∧ W.cell? ⟨a.gT, k * 11 + 8, none⟩ = some (.slice t.wA nW t.wc) ∧ W.cell? ⟨a.gT, k * 11 + 10, none⟩ = some (.int .i64 t.fr) ∧ W.cell? ⟨r, 6, none⟩ = some (.int .i64 m.time) ∧ W.cell? ⟨r, 10, none⟩ = some (.int .i64 (k : Int))) (by kernel_rfl) ?_ (fun hHeldbr => ?_)
  · exact HC.out _ (Below.refl _ _).drew
  refine tkW 0 { dst := some 7, op := Op.move (Operand.tmp 0), type := 68, pos := "stm.go:53", after := _, guard := none } (v := ?vbr0b1) rfl (Or.inl ⟨by rfl, ?hybr0b1⟩) ?restbr0b1
  case hybr0b1 => (intro w hSw; (try dsimp only at hSw); go_simp <;> with_reducible rfl)
  try simp only [putW, setZ, setS]
  refine tkW 1 { dst := some 8, op := Op.move (Operand.tmp 0), type := 68, pos := "stm.go:53", after := _, guard := none } (v := ?vbr1b2) rfl (Or.inl ⟨by rfl, ?hybr1b2⟩) ?restbr1b2
  case hybr1b2 => (intro w hSw; (try dsimp only at hSw); go_simp <;> with_reducible rfl)
  try simp only [putW, setZ, setS]
  refine tkW 2 { dst := some 9, op := Op.nilCheck (Operand.tmp 8), type := 0, pos := "stm.go:53", after := _, guard := none } (v := ?vbr2b3) rfl (Or.inl ⟨by rfl, ?hybr2b3⟩) ?restbr2b3
  case hybr2b3 => (intro w hSw; (try dsimp only at hSw); go_simp <;> with_reducible rfl)
  try simp only [putW, setZ, setS]
  refine tkW 3 { dst := some 10, op := Op.fieldAddr 70 (Operand.tmp 9) 0, type := 0, pos := "stm.go:53", after := _, guard := none } (v := ?vbr3b4) rfl (Or.inl ⟨by rfl, ?hybr3b4⟩) ?restbr3b4
  case hybr3b4 => (intro w hSw; (try dsimp only at hSw); go_simp <;> with_reducible rfl)
  try simp only [putW, setZ, setS]
  refine tkW 4 { dst := some 11, op := Op.fieldAddr 46 (Operand.tmp 10) 3, type := 0, pos := "stm.go:53", after := _, guard := none } (v := ?vbr4b5) rfl (Or.inl ⟨by rfl, ?hybr4b5⟩) ?restbr4b5
  case hybr4b5 => (intro w hSw; (try dsimp only at hSw); go_simp <;> with_reducible rfl)
  try simp only [putW, setZ, setS]
  refine tkW 6 { dst := some 13, op := Op.move (Operand.tmp 0), type := 68, pos := "stm.go:53", after := _, guard := none } (v := ?vbr6b6) rfl (Or.inl ⟨by rfl, ?hybr6b6⟩) ?restbr6b6
  case hybr6b6 => (intro w hSw; (try dsimp only at hSw); go_simp <;> with_reducible rfl)
  try simp only [putW, setZ, setS]
  refine tkW 7 { dst := some 14, op := Op.nilCheck (Operand.tmp 13), type := 0, pos := "stm.go:53", after := _, guard := none } (v := ?vbr7b7) rfl (Or.inl ⟨by rfl, ?hybr7b7⟩) ?restbr7b7
  case hybr7b7 => (intro w hSw; (try dsimp only at hSw); go_simp <;> with_reducible rfl)
  try simp only [putW, setZ, setS]
  refine tkW 8 { dst := some 15, op := Op.fieldAddr 70 (Operand.tmp 14) 2, type := 0, pos := "stm.go:53", after := _, guard := none } (v := ?vbr8b8) rfl (Or.inl ⟨by rfl, ?hybr8b8⟩) ?restbr8b8
  case hybr8b8 => (intro w hSw; (try dsimp only at hSw); go_simp <;> with_reducible rfl)
  try simp only [putW, setZ, setS]
  refine tkW 9 { dst := some 16, op := Op.load 3 (Operand.tmp 15), type := 3, pos := "stm.go:53", after := _, guard := none } (v := ?vbr9b9) rfl (Or.inl ⟨by rfl, ?hybr9b9⟩) ?restbr9b9
  case hybr9b9 => (intro w hSw; (try dsimp only at hSw); go_simp <;> with_reducible rfl)
  try simp only [putW, setZ, setS]
  refine tkW 10 { dst := some 17, op := Op.move (Operand.tmp 4), type := 84, pos := "stm.go:53", after := _, guard := none } (v := ?vbr10b10) rfl (Or.inl ⟨by rfl, ?hybr10b10⟩) ?restbr10b10
  case hybr10b10 => (intro w hSw; (try dsimp only at hSw); go_simp <;> with_reducible rfl)
  try simp only [putW, setZ, setS]
  refine tkW 11 { dst := some 18, op := Op.nilCheck (Operand.tmp 17), type := 0, pos := "stm.go:53", after := _, guard := none } (v := ?vbr11b11) rfl (Or.inl ⟨by rfl, ?hybr11b11⟩) ?restbr11b11
  case hybr11b11 => (intro w hSw; (try dsimp only at hSw); go_simp <;> with_reducible rfl)
  try simp only [putW, setZ, setS]
  refine tkW 12 { dst := some 19, op := Op.fieldAddr 52 (Operand.tmp 18) 1, type := 0, pos := "stm.go:53", after := _, guard := none } (v := ?vbr12b12) rfl (Or.inl ⟨by rfl, ?hybr12b12⟩) ?restbr12b12
  case hybr12b12 => (intro w hSw; (try dsimp only at hSw); go_simp <;> with_reducible rfl)
  try simp only [putW, setZ, setS]
  refine tkW 13 { dst := some 20, op := Op.load 3 (Operand.tmp 19), type := 3, pos := "stm.go:53", after := _, guard := none } (v := ?vbr13b13) rfl (Or.inl ⟨by rfl, ?hybr13b13⟩) ?restbr13b13
  case hybr13b13 => (intro w hSw; (try dsimp only at hSw); go_simp <;> with_reducible rfl)
  try simp only [putW, setZ, setS]
  refine tkW 14 { dst := some 21, op := Op.move (Operand.tmp 4), type := 84, pos := "stm.go:53", after := _, guard := none } (v := ?vbr14b14) rfl (Or.inl ⟨by rfl, ?hybr14b14⟩) ?restbr14b14
  case hybr14b14 => (intro w hSw; (try dsimp only at hSw); go_simp <;> with_reducible rfl)
  try simp only [putW, setZ, setS]
  refine tkW 15 { dst := some 22, op := Op.nilCheck (Operand.tmp 21), type := 0, pos := "stm.go:53", after := _, guard := none } (v := ?vbr15b15) rfl (Or.inl ⟨by rfl, ?hybr15b15⟩) ?restbr15b15
  case hybr15b15 => (intro w hSw; (try dsimp only at hSw); go_simp <;> with_reducible rfl)
  try simp only [putW, setZ, setS]
  refine tkW 16 { dst := some 23, op := Op.fieldAddr 52 (Operand.tmp 22) 2, type := 0, pos := "stm.go:53", after := _, guard := none } (v := ?vbr16b16) rfl (Or.inl ⟨by rfl, ?hybr16b16⟩) ?restbr16b16
  case hybr16b16 => (intro w hSw; (try dsimp only at hSw); go_simp <;> with_reducible rfl)
  try simp only [putW, setZ, setS]
  refine tkW 17 { dst := some 24, op := Op.load 3 (Operand.tmp 23), type := 3, pos := "stm.go:53", after := _, guard := none } (v := ?vbr17b17) rfl (Or.inl ⟨by rfl, ?hybr17b17⟩) ?restbr17b17
  case hybr17b17 => (intro w hSw; (try dsimp only at hSw); go_simp <;> with_reducible rfl)
  try simp only [putW, setZ, setS]
  refine tkW 18 { dst := some 25, op := Op.move (Operand.tmp 1), type := 3, pos := "stm.go:53", after := _, guard := none } (v := ?vbr18b18) rfl (Or.inl ⟨by rfl, ?hybr18b18⟩) ?restbr18b18
  case hybr18b18 => (intro w hSw; (try dsimp only at hSw); go_simp <;> with_reducible rfl)
  try simp only [putW, setZ, setS]
  refine tkW 19 { dst := some 26, op := Op.move (Operand.tmp 4), type := 84, pos := "stm.go:53", after := _, guard := none } (v := ?vbr19b19) rfl (Or.inl ⟨by rfl, ?hybr19b19⟩) ?restbr19b19
  case hybr19b19 => (intro w hSw; (try dsimp only at hSw); go_simp <;> with_reducible rfl)
  try simp only [putW, setZ, setS]
  refine tkW 20 { dst := some 27, op := Op.nilCheck (Operand.tmp 26), type := 0, pos := "stm.go:53", after := _, guard := none } (v := ?vbr20b20) rfl (Or.inl ⟨by rfl, ?hybr20b20⟩) ?restbr20b20
  case hybr20b20 => (intro w hSw; (try dsimp only at hSw); go_simp <;> with_reducible rfl)
  try simp only [putW, setZ, setS]
  refine tkW 21 { dst := some 28, op := Op.fieldAddr 52 (Operand.tmp 27) 4, type := 0, pos := "stm.go:53", after := _, guard := none } (v := ?vbr21b21) rfl (Or.inl ⟨by rfl, ?hybr21b21⟩) ?restbr21b21
  case hybr21b21 => (intro w hSw; (try dsimp only at hSw); go_simp <;> with_reducible rfl)
  try simp only [putW, setZ, setS]
  refine tkW 22 { dst := some 29, op := Op.load 3 (Operand.tmp 28), type := 3, pos := "stm.go:53", after := _, guard := none } (v := ?vbr22b22) rfl (Or.inl ⟨by rfl, ?hybr22b22⟩) ?restbr22b22
  case hybr22b22 => (intro w hSw; (try dsimp only at hSw); go_simp <;> with_reducible rfl)
  try simp only [putW, setZ, setS]
  refine tkW 23 { dst := some 30, op := Op.move (Operand.tmp 4), type := 84, pos := "stm.go:53", after := _, guard := none } (v := ?vbr23b23) rfl (Or.inl ⟨by rfl, ?hybr23b23⟩) ?restbr23b23
  case hybr23b23 => (intro w hSw; (try dsimp only at hSw); go_simp <;> with_reducible rfl)
  try simp only [putW, setZ, setS]
  refine tkW 24 { dst := some 31, op := Op.nilCheck (Operand.tmp 30), type := 0, pos := "stm.go:53", after := _, guard := none } (v := ?vbr24b24) rfl (Or.inl ⟨by rfl, ?hybr24b24⟩) ?restbr24b24
  case hybr24b24 => (intro w hSw; (try dsimp only at hSw); go_simp <;> with_reducible rfl)
  try simp only [putW, setZ, setS]
  refine tkW 25 { dst := some 32, op := Op.fieldAddr 52 (Operand.tmp 31) 5, type := 0, pos := "stm.go:53", after := _, guard := none } (v := ?vbr25b25) rfl (Or.inl ⟨by rfl, ?hybr25b25⟩) ?restbr25b25
  case hybr25b25 => (intro w hSw; (try dsimp only at hSw); go_simp <;> with_reducible rfl)
  try simp only [putW, setZ, setS]
  refine tkW 26 { dst := some 33, op := Op.load 3 (Operand.tmp 32), type := 3, pos := "stm.go:53", after := _, guard := none } (v := ?vbr26b26) rfl (Or.inl ⟨by rfl, ?hybr26b26⟩) ?restbr26b26
  case hybr26b26 => (intro w hSw; (try dsimp only at hSw); go_simp <;> with_reducible rfl)
  try simp only [putW, setZ, setS]
  refine tkW 27 { dst := some 34, op := Op.move (Operand.tmp 4), type := 84, pos := "stm.go:53", after := _, guard := none } (v := ?vbr27b27) rfl (Or.inl ⟨by rfl, ?hybr27b27⟩) ?restbr27b27
  case hybr27b27 => (intro w hSw; (try dsimp only at hSw); go_simp <;> with_reducible rfl)
  try simp only [putW, setZ, setS]
  refine tkW 28 { dst := some 35, op := Op.nilCheck (Operand.tmp 34), type := 0, pos := "stm.go:53", after := _, guard := none } (v := ?vbr28b28) rfl (Or.inl ⟨by rfl, ?hybr28b28⟩) ?restbr28b28
  case hybr28b28 => (intro w hSw; (try dsimp only at hSw); go_simp <;> with_reducible rfl)
  try simp only [putW, setZ, setS]
  refine tkW 29 { dst := some 36, op := Op.fieldAddr 52 (Operand.tmp 35) 7, type := 0, pos := "stm.go:53", after := _, guard := none } (v := ?vbr29b29) rfl (Or.inl ⟨by rfl, ?hybr29b29⟩) ?restbr29b29
  case hybr29b29 => (intro w hSw; (try dsimp only at hSw); go_simp <;> with_reducible rfl)
  try simp only [putW, setZ, setS]
  refine tkW 30 { dst := some 37, op := Op.load 25 (Operand.tmp 36), type := 25, pos := "stm.go:53", after := _, guard := none } (v := ?vbr30b30) rfl (Or.inl ⟨by rfl, ?hybr30b30⟩) ?restbr30b30
  case hybr30b30 => (intro w hSw; (try dsimp only at hSw); go_simp <;> with_reducible rfl)
  try simp only [putW, setZ, setS]
  refine tkW 32 { dst := some 39, op := Op.move (Operand.tmp 4), type := 84, pos := "stm.go:53", after := _, guard := none } (v := ?vbr32b31) rfl (Or.inl ⟨by rfl, ?hybr32b31⟩) ?restbr32b31
  case hybr32b31 => (intro w hSw; (try dsimp only at hSw); go_simp <;> with_reducible rfl)
  try simp only [putW, setZ, setS]
  refine tkW 33 { dst := some 40, op := Op.nilCheck (Operand.tmp 39), type := 0, pos := "stm.go:53", after := _, guard := none } (v := ?vbr33b32) rfl (Or.inl ⟨by rfl, ?hybr33b32⟩) ?restbr33b32
  case hybr33b32 => (intro w hSw; (try dsimp only at hSw); go_simp <;> with_reducible rfl)
  try simp only [putW, setZ, setS]
  refine tkW 34 { dst := some 41, op := Op.fieldAddr 52 (Operand.tmp 40) 8, type := 0, pos := "stm.go:53", after := _, guard := none } (v := ?vbr34b33) rfl (Or.inl ⟨by rfl, ?hybr34b33⟩) ?restbr34b33
  case hybr34b33 => (intro w hSw; (try dsimp only at hSw); go_simp <;> with_reducible rfl)
  try simp only [putW, setZ, setS]
  refine tkW 35 { dst := some 42, op := Op.load 25 (Operand.tmp 41), type := 25, pos := "stm.go:53", after := _, guard := none } (v := ?vbr35b34) rfl (Or.inl ⟨by rfl, ?hybr35b34⟩) ?restbr35b34
  case hybr35b34 => (intro w hSw; (try dsimp only at hSw); go_simp <;> with_reducible rfl)
  try simp only [putW, setZ, setS]
  refine tkW 37 { dst := some 44, op := Op.move (Operand.tmp 4), type := 84, pos := "stm.go:53", after := _, guard := none } (v := ?vbr37b35) rfl (Or.inl ⟨by rfl, ?hybr37b35⟩) ?restbr37b35
  case hybr37b35 => (intro w hSw; (try dsimp only at hSw); go_simp <;> with_reducible rfl)
  try simp only [putW, setZ, setS]
  refine tkW 38 { dst := some 45, op := Op.nilCheck (Operand.tmp 44), type := 0, pos := "stm.go:53", after := _, guard := none } (v := ?vbr38b36) rfl (Or.inl ⟨by rfl, ?hybr38b36⟩) ?restbr38b36
  case hybr38b36 => (intro w hSw; (try dsimp only at hSw); go_simp <;> with_reducible rfl)
  try simp only [putW, setZ, setS]
  refine tkW 39 { dst := some 46, op := Op.fieldAddr 52 (Operand.tmp 45) 10, type := 0, pos := "stm.go:53", after := _, guard := none } (v := ?vbr39b37) rfl (Or.inl ⟨by rfl, ?hybr39b37⟩) ?restbr39b37
  case hybr39b37 => (intro w hSw; (try dsimp only at hSw); go_simp <;> with_reducible rfl)
  try simp only [putW, setZ, setS]
  refine tkW 40 { dst := some 47, op := Op.load 3 (Operand.tmp 46), type := 3, pos := "stm.go:53", after := _, guard := none } (v := ?vbr40b38) rfl (Or.inl ⟨by rfl, ?hybr40b38⟩) ?restbr40b38
  case hybr40b38 => (intro w hSw; (try dsimp only at hSw); go_simp <;> with_reducible rfl)
  try simp only [putW, setZ, setS]
  refine tkW 41 { dst := some 48, op := Op.move (Operand.tmp 0), type := 68, pos := "stm.go:53", after := _, guard := none } (v := ?vbr41b39) rfl (Or.inl ⟨by rfl, ?hybr41b39⟩) ?restbr41b39
  case hybr41b39 => (intro w hSw; (try dsimp only at hSw); go_simp <;> with_reducible rfl)
  try simp only [putW, setZ, setS]
  refine tkW 42 { dst := some 49, op := Op.nilCheck (Operand.tmp 48), type := 0, pos := "stm.go:53", after := _, guard := none } (v := ?vbr42b40) rfl (Or.inl ⟨by rfl, ?hybr42b40⟩) ?restbr42b40
  case hybr42b40 => (intro w hSw; (try dsimp only at hSw); go_simp <;> with_reducible rfl)
  try simp only [putW, setZ, setS]
  refine tkW 43 { dst := some 50, op := Op.fieldAddr 70 (Operand.tmp 49) 0, type := 0, pos := "stm.go:53", after := _, guard := none } (v := ?vbr43b41) rfl (Or.inl ⟨by rfl, ?hybr43b41⟩) ?restbr43b41
  case hybr43b41 => (intro w hSw; (try dsimp only at hSw); go_simp <;> with_reducible rfl)
  try simp only [putW, setZ, setS]
  refine tkW 44 { dst := some 51, op := Op.fieldAddr 46 (Operand.tmp 50) 4, type := 0, pos := "stm.go:53", after := _, guard := none } (v := ?vbr44b42) rfl (Or.inl ⟨by rfl, ?hybr44b42⟩) ?restbr44b42
  case hybr44b42 => (intro w hSw; (try dsimp only at hSw); go_simp <;> with_reducible rfl)
  try simp only [putW, setZ, setS]
  refine tkW 45 { dst := some 52, op := Op.load 3 (Operand.tmp 51), type := 3, pos := "stm.go:53", after := _, guard := none } (v := ?vbr45b43) rfl (Or.inl ⟨by rfl, ?hybr45b43⟩) ?restbr45b43
  case hybr45b43 => (intro w hSw; (try dsimp only at hSw); go_simp <;> with_reducible rfl)
  try simp only [putW, setZ, setS]
  refine wpAnyH_ready (rs := [5, 31]) (by kernel_rfl) (by simp) ?_
  refine AllReadyH.cons (o := { dst := some 12, op := Op.load 22 (Operand.tmp 11), type := 22, pos := "stm.go:53", after := _, guard := none }) rfl (fun K hK => ?_) ?_
  · go_simp
    skip
    refine hK.out _ _ ?_ (fun hHeldbr5b44 => ?_)
    · first | exact HC.out _ (HX6.out.alloc HX6.out.size _) | exact HC.out _ (Below.refl _ _).drew | exact HC.out _ HX6.out | exact HC.out _ HX5.out
    clear hK K hHeldbr
    try simp only [Act.put, List.setIfInBounds_toArray, List.set_cons_zero, List.set_cons_succ]
    refine wpAnyH_ready (rs := [31]) (by kernel_rfl) (by simp) ?_
    refine AllReadyH.cons (o := { dst := some 38, op := Op.call { callee := Callee.value (Operand.func 75), args := #[Operand.tmp 37], argTypes := #[25] }, type := 25, pos := "stm.go:53", after := _, guard := none }) rfl (fun K hK => ?_) AllReadyH.nil
    go_simp
    refine (HSR.out _ (Below.refl _ _).drew).mono ?_
    rintro e w5 ⟨v5, rfl, ho5, hb5⟩
    obtain ⟨A5, c5, rfl, _, _⟩ := (Sl.of_own ho5).form
    have hX5 : Below w1.heap.size w1 w5 := (Below.refl _ _).drew.trans hb5
    have y5 := (hX5.cell (p := ⟨r, 5, none⟩) hR1).trans r5
    have HX5 := Lib.hid hX5
    have HO5 := Lib.hid ho5
    clear hX5 ho5 hb5
    try go_wp2_with fail
    refine hK.out _ _ ?_ (fun hHeldbr31b45 => ?_)
    · exact HC.out _ HX5.out
    clear hK K hHeldbr5b44
    try simp only [Act.put, List.setIfInBounds_toArray, List.set_cons_zero, List.set_cons_succ]
    refine wpAnyH_ready (rs := [36]) (by kernel_rfl) (by simp) ?_
    refine AllReadyH.cons (o := { dst := some 43, op := Op.call { callee := Callee.value (Operand.func 75), args := #[Operand.tmp 42], argTypes := #[25] }, type := 25, pos := "stm.go:53", after := _, guard := none }) rfl (fun K hK => ?_) AllReadyH.nil
    go_simp
    refine (HSW.out _ HX5.out).mono ?_
    rintro e w6 ⟨v6, rfl, ho6, hb6⟩
    obtain ⟨A6, c6, rfl, _, _⟩ := (Sl.of_own ho6).form
    have HX6 := Lib.hid (HX5.out.trans (hb6.mono HX5.out.size))
    have y6 := (HX6.out.cell (p := ⟨r, 5, none⟩) hR1).trans r5
    have HB6 := Lib.hid hb6
    have HO6 := Lib.hid ho6
    have z6 : r < w6.heap.size := Nat.lt_of_lt_of_le hR1 HX6.out.size
    clear ho6 hb6
    try go_wp2_with fail
    refine hK.out _ _ ?_ (fun hHeldbr36b46 => ?_)
    · exact HC.out _ HX6.out
    clear hK K hHeldbr31b45
    try simp only [Act.put, List.setIfInBounds_toArray, List.set_cons_zero, List.set_cons_succ]
    refine tkW 46 { dst := some 53, op := Op.build 27 #[(0, Operand.tmp 16), (1, Operand.tmp 20), (2, Operand.tmp 24), (3, Operand.tmp 25), (4, Operand.tmp 29), (5, Operand.tmp 33), (6, Operand.tmp 38), (7, Operand.tmp 43), (8, Operand.tmp 47), (9, Operand.tmp 52)], type := 27, pos := "stm.go:53", after := _, guard := none } (v := ?vbr46b47) rfl (Or.inl ⟨by rfl, ?hybr46b47⟩) ?restbr46b47
    case hybr46b47 => (intro w hSw; (try dsimp only at hSw); go_simp <;> with_reducible rfl)
    try simp only [putW, setZ, setS]
    refine wpAnyH_ready (rs := [47]) (by kernel_rfl) (by simp) ?_
    refine AllReadyH.cons (o := { dst := some 54, op := Op.buildSlice 22 1 #[(0, Operand.tmp 53)], type := 22, pos := "stm.go:53", after := _, guard := none }) rfl (fun K hK => ?_) AllReadyH.nil
    go_simp
    skip
    refine hK.out _ _ ?_ (fun hHeldbr47b48 => ?_)
    · exact HC.out _ (HX6.out.alloc HX6.out.size _)
    clear hK K hHeldbr36b46
    try simp only [Act.put, List.setIfInBounds_toArray, List.set_cons_zero, List.set_cons_succ]
    refine wpAnyH_ready (rs := [48]) (by kernel_rfl) (by simp) ?_
    refine AllReadyH.cons (o := { dst := some 55, op := Op.call { callee := Callee.builtin Builtin.append, args := #[Operand.tmp 12, Operand.tmp 54], argTypes := #[22, 22] }, type := 22, pos := "stm.go:53", after := _, guard := none }) rfl (fun K hK => ?_) AllReadyH.nil
    refine step_append_lies _ rfl (.tmp 12) (.tmp 54) _ rfl w0.heap.size 27 i0 _ 10 112 Try.underlying22 hi0 hz0 hz1 hz2 rfl (by omega) (.slice a.hA m.H.length a.hc) m.H.length (m.H.flatMap encRx) rfl (HRW.out _ (HX6.out.alloc HX6.out.size _)).hrow ⟨w6.heap.size, 0, none⟩ 1 1 [.int .i64 (k : Int), .int .i64 t.tx, .int .i64 t.try_, .int .i64 how, .int .i64 t.rv, .int .i64 t.wv, .slice A5 nR c5, .slice A6 nW c6, .int .i64 t.fr, .int .i64 m.time] rfl rfl (by intro j u hu; rw [add_none, Nat.zero_add, (Blk.new w6 _ _).cell]; simpa using hu) (by simp [Value.oneCell']) (by omega) (by unfold maxLen; omega) (by omega) (by have := HX6.out.size; have := HBS.out; simp; omega) _ rfl ?_
    intro g cap w7 hown7 hgrow7 hor hg7
    have hfar := (HRW.out _ (HX6.out.alloc HX6.out.size (.cells #[.int .i64 (k : Int), .int .i64 t.tx, .int .i64 t.try_, .int .i64 how, .int .i64 t.rv, .int .i64 t.wv, .slice A5 nR c5, .slice A6 nW c6, .int .i64 t.fr, .int .i64 m.time] 27))).hfar hgrow7
    have HEND := Lib.hid (tell_end (how := how) H1.out HX5.out HB6.out (prow_len HO5.out HNR.out) (prow_len HO6.out HNW.out) ((Below.refl w6.heap.size w6).alloc (Nat.le_refl _) _) hgrow7 (xx := { tellR m k t how with rA := A5, rc := c5, wA := A6, wc := c6 }) rfl (by have e : encRx { tellR m k t how with rA := A5, rc := c5, wA := A6, wc := c6 } = [.int .i64 (k : Int), .int .i64 t.tx, .int .i64 t.try_, .int .i64 how, .int .i64 t.rv, .int .i64 t.wv, .slice A5 nR c5, .slice A6 nW c6, .int .i64 t.fr, .int .i64 m.time] := (by simp only [encRx, tellR]; rw [HNR.out, HNW.out]); rw [e]; exact hown7))
    have y7 : w7.cell? ⟨r, 5, none⟩ = some (.slice a.hA m.H.length a.hc) := (hfar.2 5).1.trans ((HRW.out _ (HX6.out.alloc HX6.out.size (.cells #[.int .i64 (k : Int), .int .i64 t.tx, .int .i64 t.try_, .int .i64 how, .int .i64 t.rv, .int .i64 t.wv, .slice A5 nR c5, .slice A6 nW c6, .int .i64 t.fr, .int .i64 m.time] 27))).rcells 5)
    have f7 : w7.frozen? ⟨r, 5, none⟩ = false := (hfar.2 5).2.trans ((HRW.out _ (HX6.out.alloc HX6.out.size (.cells #[.int .i64 (k : Int), .int .i64 t.tx, .int .i64 t.try_, .int .i64 how, .int .i64 t.rv, .int .i64 t.wv, .slice A5 nR c5, .slice A6 nW c6, .int .i64 t.fr, .int .i64 m.time] 27))).run.free 5)
    have HS7 := Lib.hid (fun (hrun : RunW w0 (w6.alloc (.cells #[.int .i64 (k : Int), .int .i64 t.tx, .int .i64 t.try_, .int .i64 how, .int .i64 t.rv, .int .i64 t.wv, .slice A5 nR c5, .slice A6 nW c6, .int .i64 t.fr, .int .i64 m.time] 27)) r φ a m pw pm pv (k : Int)) => (show w7.cell? ⟨a.gT, k * 11 + 1, none⟩ = some (.int .i64 t.tx) ∧ w7.cell? ⟨a.gT, k * 11 + 2, none⟩ = some (.int .i64 t.try_) ∧ w7.cell? ⟨a.gT, k * 11 + 4, none⟩ = some (.int .i64 t.rv) ∧ w7.cell? ⟨a.gT, k * 11 + 5, none⟩ = some (.int .i64 t.wv) ∧ w7.cell? ⟨a.gT, k * 11 + 7, none⟩ = some (.slice t.rA nR t.rc) ∧ w7.cell? ⟨a.gT, k * 11 + 8, none⟩ = some (.slice t.wA nW t.wc) ∧ w7.cell? ⟨a.gT, k * 11 + 10, none⟩ = some (.int .i64 t.fr) ∧ w7.cell? ⟨r, 6, none⟩ = some (.int .i64 m.time) ∧ w7.cell? ⟨r, 10, none⟩ = some (.int .i64 (k : Int)) from ⟨(hfar.1 _).trans (hrun.tcells HK.out (j := 1) rfl), (hfar.1 _).trans (hrun.tcells HK.out (j := 2) rfl), (hfar.1 _).trans (hrun.tcells HK.out (j := 4) rfl), (hfar.1 _).trans (hrun.tcells HK.out (j := 5) rfl), (hfar.1 _).trans (HNR.out ▸ hrun.tcells HK.out (j := 7) rfl), (hfar.1 _).trans (HNW.out ▸ hrun.tcells HK.out (j := 8) rfl), (hfar.1 _).trans (hrun.tcells HK.out (j := 10) rfl), (hfar.2 6).1.trans (hrun.rcells 6), (hfar.2 10).1.trans (hrun.rcells 10)⟩) )
    clear hown7 hgrow7 hor hg7 hfar
    refine hK.out _ _ ?_ (fun hHeldbr48b49 => ?_)
    · exact HS7.out (HRW.out _ (HX6.out.alloc HX6.out.size _))
    clear hK K hHeldbr47b48
    try simp only [Act.put, List.setIfInBounds_toArray, List.set_cons_zero, List.set_cons_succ]
    refine tkW 49 { dst := some 56, op := Op.nilCheck (Operand.tmp 7), type := 0, pos := "stm.go:53", after := _, guard := none } (v := ?vbr49b50) rfl (Or.inl ⟨by rfl, ?hybr49b50⟩) ?restbr49b50
    case hybr49b50 => (intro w hSw; (try dsimp only at hSw); go_simp <;> with_reducible rfl)
    try simp only [putW, setZ, setS]
    refine tkW 50 { dst := some 57, op := Op.fieldAddr 70 (Operand.tmp 56) 0, type := 0, pos := "stm.go:53", after := _, guard := none } (v := ?vbr50b51) rfl (Or.inl ⟨by rfl, ?hybr50b51⟩) ?restbr50b51
    case hybr50b51 => (intro w hSw; (try dsimp only at hSw); go_simp <;> with_reducible rfl)
    try simp only [putW, setZ, setS]
    refine tkW 51 { dst := some 58, op := Op.fieldAddr 46 (Operand.tmp 57) 3, type := 0, pos := "stm.go:53", after := _, guard := none } (v := ?vbr51b52) rfl (Or.inl ⟨by rfl, ?hybr51b52⟩) ?restbr51b52
    case hybr51b52 => (intro w hSw; (try dsimp only at hSw); go_simp <;> with_reducible rfl)
    try simp only [putW, setZ, setS]
    refine wpAnyH_ready (rs := [52]) (by kernel_rfl) (by simp) ?_
    refine AllReadyH.cons (o := { dst := none, op := Op.store 22 (Operand.tmp 58) (Operand.tmp 55), type := 0, pos := "stm.go:53", after := _, guard := none }) rfl (fun K hK => ?_) AllReadyH.nil
    go_simp
    skip
    refine hK.out _ _ ?_ (fun hHeldbr52b53 => ?_)
    · (obtain ⟨_, φ', A', c', x', hrun, _⟩ := HEND.out; exact ⟨hrun.tcells HK.out (j := 1) rfl, hrun.tcells HK.out (j := 2) rfl, hrun.tcells HK.out (j := 4) rfl, hrun.tcells HK.out (j := 5) rfl, (by have h7 := hrun.tcells HK.out (j := 7) rfl; rw [HNR.out] at h7; exact h7), (by have h8 := hrun.tcells HK.out (j := 8) rfl; rw [HNW.out] at h8; exact h8), hrun.tcells HK.out (j := 10) rfl, hrun.rcells 6, hrun.rcells 10⟩)
    clear hK K hHeldbr48b49
    try simp only [Act.put, List.setIfInBounds_toArray, List.set_cons_zero, List.set_cons_succ]
    refine wpAnyH_done (by kernel_rfl) ?_ _
    go_wp2
    go_end0
    exact HEND.out
  refine AllReadyH.cons (o := { dst := some 38, op := Op.call { callee := Callee.value (Operand.func 75), args := #[Operand.tmp 37], argTypes := #[25] }, type := 25, pos := "stm.go:53", after := _, guard := none }) rfl (fun K hK => ?_) ?_
  · go_simp
    refine (HSR.out _ (Below.refl _ _).drew).mono ?_
    rintro e w5 ⟨v5, rfl, ho5, hb5⟩
    obtain ⟨A5, c5, rfl, _, _⟩ := (Sl.of_own ho5).form
    have hX5 : Below w1.heap.size w1 w5 := (Below.refl _ _).drew.trans hb5
    have y5 := (hX5.cell (p := ⟨r, 5, none⟩) hR1).trans r5
    have HX5 := Lib.hid hX5
    have HO5 := Lib.hid ho5
    clear hX5 ho5 hb5
    try go_wp2_with fail
    refine hK.out _ _ ?_ (fun hHeldbr31b54 => ?_)
    · exact HC.out _ HX5.out
    clear hK K hHeldbr
    try simp only [Act.put, List.setIfInBounds_toArray, List.set_cons_zero, List.set_cons_succ]
    refine wpAnyH_ready (rs := [5, 36]) (by kernel_rfl) (by simp) ?_
    refine AllReadyH.cons (o := { dst := some 12, op := Op.load 22 (Operand.tmp 11), type := 22, pos := "stm.go:53", after := _, guard := none }) rfl (fun K hK => ?_) ?_
    · go_simp
      skip
      refine hK.out _ _ ?_ (fun hHeldbr5b55 => ?_)
      · first | exact HC.out _ (HX6.out.alloc HX6.out.size _) | exact HC.out _ (Below.refl _ _).drew | exact HC.out _ HX6.out | exact HC.out _ HX5.out
      clear hK K hHeldbr31b54
      try simp only [Act.put, List.setIfInBounds_toArray, List.set_cons_zero, List.set_cons_succ]
      refine wpAnyH_ready (rs := [36]) (by kernel_rfl) (by simp) ?_
      refine AllReadyH.cons (o := { dst := some 43, op := Op.call { callee := Callee.value (Operand.func 75), args := #[Operand.tmp 42], argTypes := #[25] }, type := 25, pos := "stm.go:53", after := _, guard := none }) rfl (fun K hK => ?_) AllReadyH.nil
      go_simp
      refine (HSW.out _ HX5.out).mono ?_
      rintro e w6 ⟨v6, rfl, ho6, hb6⟩
      obtain ⟨A6, c6, rfl, _, _⟩ := (Sl.of_own ho6).form
      have HX6 := Lib.hid (HX5.out.trans (hb6.mono HX5.out.size))
      have y6 := (HX6.out.cell (p := ⟨r, 5, none⟩) hR1).trans r5
      have HB6 := Lib.hid hb6
      have HO6 := Lib.hid ho6
      have z6 : r < w6.heap.size := Nat.lt_of_lt_of_le hR1 HX6.out.size
      clear ho6 hb6
      try go_wp2_with fail
      refine hK.out _ _ ?_ (fun hHeldbr36b56 => ?_)
      · exact HC.out _ HX6.out
      clear hK K hHeldbr5b55
      try simp only [Act.put, List.setIfInBounds_toArray, List.set_cons_zero, List.set_cons_succ]
      refine tkW 46 { dst := some 53, op := Op.build 27 #[(0, Operand.tmp 16), (1, Operand.tmp 20), (2, Operand.tmp 24), (3, Operand.tmp 25), (4, Operand.tmp 29), (5, Operand.tmp 33), (6, Operand.tmp 38), (7, Operand.tmp 43), (8, Operand.tmp 47), (9, Operand.tmp 52)], type := 27, pos := "stm.go:53", after := _, guard := none } (v := ?vbr46b57) rfl (Or.inl ⟨by rfl, ?hybr46b57⟩) ?restbr46b57
      case hybr46b57 => (intro w hSw; (try dsimp only at hSw); go_simp <;> with_reducible rfl)
      try simp only [putW, setZ, setS]
      refine wpAnyH_ready (rs := [47]) (by kernel_rfl) (by simp) ?_
      refine AllReadyH.cons (o := { dst := some 54, op := Op.buildSlice 22 1 #[(0, Operand.tmp 53)], type := 22, pos := "stm.go:53", after := _, guard := none }) rfl (fun K hK => ?_) AllReadyH.nil
      go_simp
      skip
      refine hK.out _ _ ?_ (fun hHeldbr47b58 => ?_)
      · exact HC.out _ (HX6.out.alloc HX6.out.size _)
      clear hK K hHeldbr36b56
      try simp only [Act.put, List.setIfInBounds_toArray, List.set_cons_zero, List.set_cons_succ]
      refine wpAnyH_ready (rs := [48]) (by kernel_rfl) (by simp) ?_
      refine AllReadyH.cons (o := { dst := some 55, op := Op.call { callee := Callee.builtin Builtin.append, args := #[Operand.tmp 12, Operand.tmp 54], argTypes := #[22, 22] }, type := 22, pos := "stm.go:53", after := _, guard := none }) rfl (fun K hK => ?_) AllReadyH.nil
      refine step_append_lies _ rfl (.tmp 12) (.tmp 54) _ rfl w0.heap.size 27 i0 _ 10 112 Try.underlying22 hi0 hz0 hz1 hz2 rfl (by omega) (.slice a.hA m.H.length a.hc) m.H.length (m.H.flatMap encRx) rfl (HRW.out _ (HX6.out.alloc HX6.out.size _)).hrow ⟨w6.heap.size, 0, none⟩ 1 1 [.int .i64 (k : Int), .int .i64 t.tx, .int .i64 t.try_, .int .i64 how, .int .i64 t.rv, .int .i64 t.wv, .slice A5 nR c5, .slice A6 nW c6, .int .i64 t.fr, .int .i64 m.time] rfl rfl (by intro j u hu; rw [add_none, Nat.zero_add, (Blk.new w6 _ _).cell]; simpa using hu) (by simp [Value.oneCell']) (by omega) (by unfold maxLen; omega) (by omega) (by have := HX6.out.size; have := HBS.out; simp; omega) _ rfl ?_
      intro g cap w7 hown7 hgrow7 hor hg7
      have hfar := (HRW.out _ (HX6.out.alloc HX6.out.size (.cells #[.int .i64 (k : Int), .int .i64 t.tx, .int .i64 t.try_, .int .i64 how, .int .i64 t.rv, .int .i64 t.wv, .slice A5 nR c5, .slice A6 nW c6, .int .i64 t.fr, .int .i64 m.time] 27))).hfar hgrow7
      have HEND := Lib.hid (tell_end (how := how) H1.out HX5.out HB6.out (prow_len HO5.out HNR.out) (prow_len HO6.out HNW.out) ((Below.refl w6.heap.size w6).alloc (Nat.le_refl _) _) hgrow7 (xx := { tellR m k t how with rA := A5, rc := c5, wA := A6, wc := c6 }) rfl (by have e : encRx { tellR m k t how with rA := A5, rc := c5, wA := A6, wc := c6 } = [.int .i64 (k : Int), .int .i64 t.tx, .int .i64 t.try_, .int .i64 how, .int .i64 t.rv, .int .i64 t.wv, .slice A5 nR c5, .slice A6 nW c6, .int .i64 t.fr, .int .i64 m.time] := (by simp only [encRx, tellR]; rw [HNR.out, HNW.out]); rw [e]; exact hown7))
      have y7 : w7.cell? ⟨r, 5, none⟩ = some (.slice a.hA m.H.length a.hc) := (hfar.2 5).1.trans ((HRW.out _ (HX6.out.alloc HX6.out.size (.cells #[.int .i64 (k : Int), .int .i64 t.tx, .int .i64 t.try_, .int .i64 how, .int .i64 t.rv, .int .i64 t.wv, .slice A5 nR c5, .slice A6 nW c6, .int .i64 t.fr, .int .i64 m.time] 27))).rcells 5)
      have f7 : w7.frozen? ⟨r, 5, none⟩ = false := (hfar.2 5).2.trans ((HRW.out _ (HX6.out.alloc HX6.out.size (.cells #[.int .i64 (k : Int), .int .i64 t.tx, .int .i64 t.try_, .int .i64 how, .int .i64 t.rv, .int .i64 t.wv, .slice A5 nR c5, .slice A6 nW c6, .int .i64 t.fr, .int .i64 m.time] 27))).run.free 5)
      have HS7 := Lib.hid (fun (hrun : RunW w0 (w6.alloc (.cells #[.int .i64 (k : Int), .int .i64 t.tx, .int .i64 t.try_, .int .i64 how, .int .i64 t.rv, .int .i64 t.wv, .slice A5 nR c5, .slice A6 nW c6, .int .i64 t.fr, .int .i64 m.time] 27)) r φ a m pw pm pv (k : Int)) => (show w7.cell? ⟨a.gT, k * 11 + 1, none⟩ = some (.int .i64 t.tx) ∧ w7.cell? ⟨a.gT, k * 11 + 2, none⟩ = some (.int .i64 t.try_) ∧ w7.cell? ⟨a.gT, k * 11 + 4, none⟩ = some (.int .i64 t.rv) ∧ w7.cell? ⟨a.gT, k * 11 + 5, none⟩ = some (.int .i64 t.wv) ∧ w7.cell? ⟨a.gT, k * 11 + 7, none⟩ = some (.slice t.rA nR t.rc) ∧ w7.cell? ⟨a.gT, k * 11 + 8, none⟩ = some (.slice t.wA nW t.wc) ∧ w7.cell? ⟨a.gT, k * 11 + 10, none⟩ = some (.int .i64 t.fr) ∧ w7.cell? ⟨r, 6, none⟩ = some (.int .i64 m.time) ∧ w7.cell? ⟨r, 10, none⟩ = some (.int .i64 (k : Int)) from ⟨(hfar.1 _).trans (hrun.tcells HK.out (j := 1) rfl), (hfar.1 _).trans (hrun.tcells HK.out (j := 2) rfl), (hfar.1 _).trans (hrun.tcells HK.out (j := 4) rfl), (hfar.1 _).trans (hrun.tcells HK.out (j := 5) rfl), (hfar.1 _).trans (HNR.out ▸ hrun.tcells HK.out (j := 7) rfl), (hfar.1 _).trans (HNW.out ▸ hrun.tcells HK.out (j := 8) rfl), (hfar.1 _).trans (hrun.tcells HK.out (j := 10) rfl), (hfar.2 6).1.trans (hrun.rcells 6), (hfar.2 10).1.trans (hrun.rcells 10)⟩) )
      clear hown7 hgrow7 hor hg7 hfar
      refine hK.out _ _ ?_ (fun hHeldbr48b59 => ?_)
      · exact HS7.out (HRW.out _ (HX6.out.alloc HX6.out.size _))
      clear hK K hHeldbr47b58
      try simp only [Act.put, List.setIfInBounds_toArray, List.set_cons_zero, List.set_cons_succ]
      refine tkW 49 { dst := some 56, op := Op.nilCheck (Operand.tmp 7), type := 0, pos := "stm.go:53", after := _, guard := none } (v := ?vbr49b60) rfl (Or.inl ⟨by rfl, ?hybr49b60⟩) ?restbr49b60
      case hybr49b60 => (intro w hSw; (try dsimp only at hSw); go_simp <;> with_reducible rfl)
      try simp only [putW, setZ, setS]
      refine tkW 50 { dst := some 57, op := Op.fieldAddr 70 (Operand.tmp 56) 0, type := 0, pos := "stm.go:53", after := _, guard := none } (v := ?vbr50b61) rfl (Or.inl ⟨by rfl, ?hybr50b61⟩) ?restbr50b61
      case hybr50b61 => (intro w hSw; (try dsimp only at hSw); go_simp <;> with_reducible rfl)
      try simp only [putW, setZ, setS]
      refine tkW 51 { dst := some 58, op := Op.fieldAddr 46 (Operand.tmp 57) 3, type := 0, pos := "stm.go:53", after := _, guard := none } (v := ?vbr51b62) rfl (Or.inl ⟨by rfl, ?hybr51b62⟩) ?restbr51b62
      case hybr51b62 => (intro w hSw; (try dsimp only at hSw); go_simp <;> with_reducible rfl)
      try simp only [putW, setZ, setS]
      refine wpAnyH_ready (rs := [52]) (by kernel_rfl) (by simp) ?_
      refine AllReadyH.cons (o := { dst := none, op := Op.store 22 (Operand.tmp 58) (Operand.tmp 55), type := 0, pos := "stm.go:53", after := _, guard := none }) rfl (fun K hK => ?_) AllReadyH.nil
      go_simp
      skip
      refine hK.out _ _ ?_ (fun hHeldbr52b63 => ?_)
      · (obtain ⟨_, φ', A', c', x', hrun, _⟩ := HEND.out; exact ⟨hrun.tcells HK.out (j := 1) rfl, hrun.tcells HK.out (j := 2) rfl, hrun.tcells HK.out (j := 4) rfl, hrun.tcells HK.out (j := 5) rfl, (by have h7 := hrun.tcells HK.out (j := 7) rfl; rw [HNR.out] at h7; exact h7), (by have h8 := hrun.tcells HK.out (j := 8) rfl; rw [HNW.out] at h8; exact h8), hrun.tcells HK.out (j := 10) rfl, hrun.rcells 6, hrun.rcells 10⟩)
      clear hK K hHeldbr48b59
      try simp only [Act.put, List.setIfInBounds_toArray, List.set_cons_zero, List.set_cons_succ]
      refine wpAnyH_done (by kernel_rfl) ?_ _
      go_wp2
      go_end0
      exact HEND.out
    refine AllReadyH.cons (o := { dst := some 43, op := Op.call { callee := Callee.value (Operand.func 75), args := #[Operand.tmp 42], argTypes := #[25] }, type := 25, pos := "stm.go:53", after := _, guard := none }) rfl (fun K hK => ?_) ?_
    · go_simp
      refine (HSW.out _ HX5.out).mono ?_
      rintro e w6 ⟨v6, rfl, ho6, hb6⟩
      obtain ⟨A6, c6, rfl, _, _⟩ := (Sl.of_own ho6).form
      have HX6 := Lib.hid (HX5.out.trans (hb6.mono HX5.out.size))
      have y6 := (HX6.out.cell (p := ⟨r, 5, none⟩) hR1).trans r5
      have HB6 := Lib.hid hb6
      have HO6 := Lib.hid ho6
      have z6 : r < w6.heap.size := Nat.lt_of_lt_of_le hR1 HX6.out.size
      clear ho6 hb6
      try go_wp2_with fail
      refine hK.out _ _ ?_ (fun hHeldbr36b64 => ?_)
      · exact HC.out _ HX6.out
      clear hK K hHeldbr31b54
      try simp only [Act.put, List.setIfInBounds_toArray, List.set_cons_zero, List.set_cons_succ]
      refine tkW 46 { dst := some 53, op := Op.build 27 #[(0, Operand.tmp 16), (1, Operand.tmp 20), (2, Operand.tmp 24), (3, Operand.tmp 25), (4, Operand.tmp 29), (5, Operand.tmp 33), (6, Operand.tmp 38), (7, Operand.tmp 43), (8, Operand.tmp 47), (9, Operand.tmp 52)], type := 27, pos := "stm.go:53", after := _, guard := none } (v := ?vbr46b65) rfl (Or.inl ⟨by rfl, ?hybr46b65⟩) ?restbr46b65
      case hybr46b65 => (intro w hSw; (try dsimp only at hSw); go_simp <;> with_reducible rfl)
      try simp only [putW, setZ, setS]
      refine wpAnyH_ready (rs := [5, 47]) (by kernel_rfl) (by simp) ?_
      refine AllReadyH.cons (o := { dst := some 12, op := Op.load 22 (Operand.tmp 11), type := 22, pos := "stm.go:53", after := _, guard := none }) rfl (fun K hK => ?_) ?_
      · go_simp
        skip
        refine hK.out _ _ ?_ (fun hHeldbr5b66 => ?_)
        · first | exact HC.out _ (HX6.out.alloc HX6.out.size _) | exact HC.out _ (Below.refl _ _).drew | exact HC.out _ HX6.out | exact HC.out _ HX5.out
        clear hK K hHeldbr36b64
        try simp only [Act.put, List.setIfInBounds_toArray, List.set_cons_zero, List.set_cons_succ]
        refine wpAnyH_ready (rs := [47]) (by kernel_rfl) (by simp) ?_
        refine AllReadyH.cons (o := { dst := some 54, op := Op.buildSlice 22 1 #[(0, Operand.tmp 53)], type := 22, pos := "stm.go:53", after := _, guard := none }) rfl (fun K hK => ?_) AllReadyH.nil
        go_simp
        skip
        refine hK.out _ _ ?_ (fun hHeldbr47b67 => ?_)
        · exact HC.out _ (HX6.out.alloc HX6.out.size _)
        clear hK K hHeldbr5b66
        try simp only [Act.put, List.setIfInBounds_toArray, List.set_cons_zero, List.set_cons_succ]
        refine wpAnyH_ready (rs := [48]) (by kernel_rfl) (by simp) ?_
        refine AllReadyH.cons (o := { dst := some 55, op := Op.call { callee := Callee.builtin Builtin.append, args := #[Operand.tmp 12, Operand.tmp 54], argTypes := #[22, 22] }, type := 22, pos := "stm.go:53", after := _, guard := none }) rfl (fun K hK => ?_) AllReadyH.nil
        refine step_append_lies _ rfl (.tmp 12) (.tmp 54) _ rfl w0.heap.size 27 i0 _ 10 112 Try.underlying22 hi0 hz0 hz1 hz2 rfl (by omega) (.slice a.hA m.H.length a.hc) m.H.length (m.H.flatMap encRx) rfl (HRW.out _ (HX6.out.alloc HX6.out.size _)).hrow ⟨w6.heap.size, 0, none⟩ 1 1 [.int .i64 (k : Int), .int .i64 t.tx, .int .i64 t.try_, .int .i64 how, .int .i64 t.rv, .int .i64 t.wv, .slice A5 nR c5, .slice A6 nW c6, .int .i64 t.fr, .int .i64 m.time] rfl rfl (by intro j u hu; rw [add_none, Nat.zero_add, (Blk.new w6 _ _).cell]; simpa using hu) (by simp [Value.oneCell']) (by omega) (by unfold maxLen; omega) (by omega) (by have := HX6.out.size; have := HBS.out; simp; omega) _ rfl ?_
        intro g cap w7 hown7 hgrow7 hor hg7
        have hfar := (HRW.out _ (HX6.out.alloc HX6.out.size (.cells #[.int .i64 (k : Int), .int .i64 t.tx, .int .i64 t.try_, .int .i64 how, .int .i64 t.rv, .int .i64 t.wv, .slice A5 nR c5, .slice A6 nW c6, .int .i64 t.fr, .int .i64 m.time] 27))).hfar hgrow7
        have HEND := Lib.hid (tell_end (how := how) H1.out HX5.out HB6.out (prow_len HO5.out HNR.out) (prow_len HO6.out HNW.out) ((Below.refl w6.heap.size w6).alloc (Nat.le_refl _) _) hgrow7 (xx := { tellR m k t how with rA := A5, rc := c5, wA := A6, wc := c6 }) rfl (by have e : encRx { tellR m k t how with rA := A5, rc := c5, wA := A6, wc := c6 } = [.int .i64 (k : Int), .int .i64 t.tx, .int .i64 t.try_, .int .i64 how, .int .i64 t.rv, .int .i64 t.wv, .slice A5 nR c5, .slice A6 nW c6, .int .i64 t.fr, .int .i64 m.time] := (by simp only [encRx, tellR]; rw [HNR.out, HNW.out]); rw [e]; exact hown7))
        have y7 : w7.cell? ⟨r, 5, none⟩ = some (.slice a.hA m.H.length a.hc) := (hfar.2 5).1.trans ((HRW.out _ (HX6.out.alloc HX6.out.size (.cells #[.int .i64 (k : Int), .int .i64 t.tx, .int .i64 t.try_, .int .i64 how, .int .i64 t.rv, .int .i64 t.wv, .slice A5 nR c5, .slice A6 nW c6, .int .i64 t.fr, .int .i64 m.time] 27))).rcells 5)
        have f7 : w7.frozen? ⟨r, 5, none⟩ = false := (hfar.2 5).2.trans ((HRW.out _ (HX6.out.alloc HX6.out.size (.cells #[.int .i64 (k : Int), .int .i64 t.tx, .int .i64 t.try_, .int .i64 how, .int .i64 t.rv, .int .i64 t.wv, .slice A5 nR c5, .slice A6 nW c6, .int .i64 t.fr, .int .i64 m.time] 27))).run.free 5)
        have HS7 := Lib.hid (fun (hrun : RunW w0 (w6.alloc (.cells #[.int .i64 (k : Int), .int .i64 t.tx, .int .i64 t.try_, .int .i64 how, .int .i64 t.rv, .int .i64 t.wv, .slice A5 nR c5, .slice A6 nW c6, .int .i64 t.fr, .int .i64 m.time] 27)) r φ a m pw pm pv (k : Int)) => (show w7.cell? ⟨a.gT, k * 11 + 1, none⟩ = some (.int .i64 t.tx) ∧ w7.cell? ⟨a.gT, k * 11 + 2, none⟩ = some (.int .i64 t.try_) ∧ w7.cell? ⟨a.gT, k * 11 + 4, none⟩ = some (.int .i64 t.rv) ∧ w7.cell? ⟨a.gT, k * 11 + 5, none⟩ = some (.int .i64 t.wv) ∧ w7.cell? ⟨a.gT, k * 11 + 7, none⟩ = some (.slice t.rA nR t.rc) ∧ w7.cell? ⟨a.gT, k * 11 + 8, none⟩ = some (.slice t.wA nW t.wc) ∧ w7.cell? ⟨a.gT, k * 11 + 10, none⟩ = some (.int .i64 t.fr) ∧ w7.cell? ⟨r, 6, none⟩ = some (.int .i64 m.time) ∧ w7.cell? ⟨r, 10, none⟩ = some (.int .i64 (k : Int)) from ⟨(hfar.1 _).trans (hrun.tcells HK.out (j := 1) rfl), (hfar.1 _).trans (hrun.tcells HK.out (j := 2) rfl), (hfar.1 _).trans (hrun.tcells HK.out (j := 4) rfl), (hfar.1 _).trans (hrun.tcells HK.out (j := 5) rfl), (hfar.1 _).trans (HNR.out ▸ hrun.tcells HK.out (j := 7) rfl), (hfar.1 _).trans (HNW.out ▸ hrun.tcells HK.out (j := 8) rfl), (hfar.1 _).trans (hrun.tcells HK.out (j := 10) rfl), (hfar.2 6).1.trans (hrun.rcells 6), (hfar.2 10).1.trans (hrun.rcells 10)⟩) )
        clear hown7 hgrow7 hor hg7 hfar
        refine hK.out _ _ ?_ (fun hHeldbr48b68 => ?_)
        · exact HS7.out (HRW.out _ (HX6.out.alloc HX6.out.size _))
        clear hK K hHeldbr47b67
        try simp only [Act.put, List.setIfInBounds_toArray, List.set_cons_zero, List.set_cons_succ]
        refine tkW 49 { dst := some 56, op := Op.nilCheck (Operand.tmp 7), type := 0, pos := "stm.go:53", after := _, guard := none } (v := ?vbr49b69) rfl (Or.inl ⟨by rfl, ?hybr49b69⟩) ?restbr49b69
        case hybr49b69 => (intro w hSw; (try dsimp only at hSw); go_simp <;> with_reducible rfl)
        try simp only [putW, setZ, setS]
        refine tkW 50 { dst := some 57, op := Op.fieldAddr 70 (Operand.tmp 56) 0, type := 0, pos := "stm.go:53", after := _, guard := none } (v := ?vbr50b70) rfl (Or.inl ⟨by rfl, ?hybr50b70⟩) ?restbr50b70
        case hybr50b70 => (intro w hSw; (try dsimp only at hSw); go_simp <;> with_reducible rfl)
        try simp only [putW, setZ, setS]
        refine tkW 51 { dst := some 58, op := Op.fieldAddr 46 (Operand.tmp 57) 3, type := 0, pos := "stm.go:53", after := _, guard := none } (v := ?vbr51b71) rfl (Or.inl ⟨by rfl, ?hybr51b71⟩) ?restbr51b71
        case hybr51b71 => (intro w hSw; (try dsimp only at hSw); go_simp <;> with_reducible rfl)
        try simp only [putW, setZ, setS]
        refine wpAnyH_ready (rs := [52]) (by kernel_rfl) (by simp) ?_
        refine AllReadyH.cons (o := { dst := none, op := Op.store 22 (Operand.tmp 58) (Operand.tmp 55), type := 0, pos := "stm.go:53", after := _, guard := none }) rfl (fun K hK => ?_) AllReadyH.nil
        go_simp
        skip
        refine hK.out _ _ ?_ (fun hHeldbr52b72 => ?_)
        · (obtain ⟨_, φ', A', c', x', hrun, _⟩ := HEND.out; exact ⟨hrun.tcells HK.out (j := 1) rfl, hrun.tcells HK.out (j := 2) rfl, hrun.tcells HK.out (j := 4) rfl, hrun.tcells HK.out (j := 5) rfl, (by have h7 := hrun.tcells HK.out (j := 7) rfl; rw [HNR.out] at h7; exact h7), (by have h8 := hrun.tcells HK.out (j := 8) rfl; rw [HNW.out] at h8; exact h8), hrun.tcells HK.out (j := 10) rfl, hrun.rcells 6, hrun.rcells 10⟩)
        clear hK K hHeldbr48b68
        try simp only [Act.put, List.setIfInBounds_toArray, List.set_cons_zero, List.set_cons_succ]
        refine wpAnyH_done (by kernel_rfl) ?_ _
        go_wp2
        go_end0
        exact HEND.out
      refine AllReadyH.cons (o := { dst := some 54, op := Op.buildSlice 22 1 #[(0, Operand.tmp 53)], type := 22, pos := "stm.go:53", after := _, guard := none }) rfl (fun K hK => ?_) ?_
      · go_simp
        skip
        refine hK.out _ _ ?_ (fun hHeldbr47b73 => ?_)
        · exact HC.out _ (HX6.out.alloc HX6.out.size _)
        clear hK K hHeldbr36b64
        try simp only [Act.put, List.setIfInBounds_toArray, List.set_cons_zero, List.set_cons_succ]
        refine wpAnyH_ready (rs := [5]) (by kernel_rfl) (by simp) ?_
        refine AllReadyH.cons (o := { dst := some 12, op := Op.load 22 (Operand.tmp 11), type := 22, pos := "stm.go:53", after := _, guard := none }) rfl (fun K hK => ?_) AllReadyH.nil
        go_simp
        skip
        refine hK.out _ _ ?_ (fun hHeldbr5b74 => ?_)
        · first | exact HC.out _ (HX6.out.alloc HX6.out.size _) | exact HC.out _ (Below.refl _ _).drew | exact HC.out _ HX6.out | exact HC.out _ HX5.out
        clear hK K hHeldbr47b73
        try simp only [Act.put, List.setIfInBounds_toArray, List.set_cons_zero, List.set_cons_succ]
        refine wpAnyH_ready (rs := [48]) (by kernel_rfl) (by simp) ?_
        refine AllReadyH.cons (o := { dst := some 55, op := Op.call { callee := Callee.builtin Builtin.append, args := #[Operand.tmp 12, Operand.tmp 54], argTypes := #[22, 22] }, type := 22, pos := "stm.go:53", after := _, guard := none }) rfl (fun K hK => ?_) AllReadyH.nil
        refine step_append_lies _ rfl (.tmp 12) (.tmp 54) _ rfl w0.heap.size 27 i0 _ 10 112 Try.underlying22 hi0 hz0 hz1 hz2 rfl (by omega) (.slice a.hA m.H.length a.hc) m.H.length (m.H.flatMap encRx) rfl (HRW.out _ (HX6.out.alloc HX6.out.size _)).hrow ⟨w6.heap.size, 0, none⟩ 1 1 [.int .i64 (k : Int), .int .i64 t.tx, .int .i64 t.try_, .int .i64 how, .int .i64 t.rv, .int .i64 t.wv, .slice A5 nR c5, .slice A6 nW c6, .int .i64 t.fr, .int .i64 m.time] rfl rfl (by intro j u hu; rw [add_none, Nat.zero_add, (Blk.new w6 _ _).cell]; simpa using hu) (by simp [Value.oneCell']) (by omega) (by unfold maxLen; omega) (by omega) (by have := HX6.out.size; have := HBS.out; simp; omega) _ rfl ?_
        intro g cap w7 hown7 hgrow7 hor hg7
        have hfar := (HRW.out _ (HX6.out.alloc HX6.out.size (.cells #[.int .i64 (k : Int), .int .i64 t.tx, .int .i64 t.try_, .int .i64 how, .int .i64 t.rv, .int .i64 t.wv, .slice A5 nR c5, .slice A6 nW c6, .int .i64 t.fr, .int .i64 m.time] 27))).hfar hgrow7
        have HEND := Lib.hid (tell_end (how := how) H1.out HX5.out HB6.out (prow_len HO5.out HNR.out) (prow_len HO6.out HNW.out) ((Below.refl w6.heap.size w6).alloc (Nat.le_refl _) _) hgrow7 (xx := { tellR m k t how with rA := A5, rc := c5, wA := A6, wc := c6 }) rfl (by have e : encRx { tellR m k t how with rA := A5, rc := c5, wA := A6, wc := c6 } = [.int .i64 (k : Int), .int .i64 t.tx, .int .i64 t.try_, .int .i64 how, .int .i64 t.rv, .int .i64 t.wv, .slice A5 nR c5, .slice A6 nW c6, .int .i64 t.fr, .int .i64 m.time] := (by simp only [encRx, tellR]; rw [HNR.out, HNW.out]); rw [e]; exact hown7))
        have y7 : w7.cell? ⟨r, 5, none⟩ = some (.slice a.hA m.H.length a.hc) := (hfar.2 5).1.trans ((HRW.out _ (HX6.out.alloc HX6.out.size (.cells #[.int .i64 (k : Int), .int .i64 t.tx, .int .i64 t.try_, .int .i64 how, .int .i64 t.rv, .int .i64 t.wv, .slice A5 nR c5, .slice A6 nW c6, .int .i64 t.fr, .int .i64 m.time] 27))).rcells 5)
        have f7 : w7.frozen? ⟨r, 5, none⟩ = false := (hfar.2 5).2.trans ((HRW.out _ (HX6.out.alloc HX6.out.size (.cells #[.int .i64 (k : Int), .int .i64 t.tx, .int .i64 t.try_, .int .i64 how, .int .i64 t.rv, .int .i64 t.wv, .slice A5 nR c5, .slice A6 nW c6, .int .i64 t.fr, .int .i64 m.time] 27))).run.free 5)
        have HS7 := Lib.hid (fun (hrun : RunW w0 (w6.alloc (.cells #[.int .i64 (k : Int), .int .i64 t.tx, .int .i64 t.try_, .int .i64 how, .int .i64 t.rv, .int .i64 t.wv, .slice A5 nR c5, .slice A6 nW c6, .int .i64 t.fr, .int .i64 m.time] 27)) r φ a m pw pm pv (k : Int)) => (show w7.cell? ⟨a.gT, k * 11 + 1, none⟩ = some (.int .i64 t.tx) ∧ w7.cell? ⟨a.gT, k * 11 + 2, none⟩ = some (.int .i64 t.try_) ∧ w7.cell? ⟨a.gT, k * 11 + 4, none⟩ = some (.int .i64 t.rv) ∧ w7.cell? ⟨a.gT, k * 11 + 5, none⟩ = some (.int .i64 t.wv) ∧ w7.cell? ⟨a.gT, k * 11 + 7, none⟩ = some (.slice t.rA nR t.rc) ∧ w7.cell? ⟨a.gT, k * 11 + 8, none⟩ = some (.slice t.wA nW t.wc) ∧ w7.cell? ⟨a.gT, k * 11 + 10, none⟩ = some (.int .i64 t.fr) ∧ w7.cell? ⟨r, 6, none⟩ = some (.int .i64 m.time) ∧ w7.cell? ⟨r, 10, none⟩ = some (.int .i64 (k : Int)) from ⟨(hfar.1 _).trans (hrun.tcells HK.out (j := 1) rfl), (hfar.1 _).trans (hrun.tcells HK.out (j := 2) rfl), (hfar.1 _).trans (hrun.tcells HK.out (j := 4) rfl), (hfar.1 _).trans (hrun.tcells HK.out (j := 5) rfl), (hfar.1 _).trans (HNR.out ▸ hrun.tcells HK.out (j := 7) rfl), (hfar.1 _).trans (HNW.out ▸ hrun.tcells HK.out (j := 8) rfl), (hfar.1 _).trans (hrun.tcells HK.out (j := 10) rfl), (hfar.2 6).1.trans (hrun.rcells 6), (hfar.2 10).1.trans (hrun.rcells 10)⟩) )
        clear hown7 hgrow7 hor hg7 hfar
        refine hK.out _ _ ?_ (fun hHeldbr48b75 => ?_)
        · exact HS7.out (HRW.out _ (HX6.out.alloc HX6.out.size _))
        clear hK K hHeldbr5b74
        try simp only [Act.put, List.setIfInBounds_toArray, List.set_cons_zero, List.set_cons_succ]
        refine tkW 49 { dst := some 56, op := Op.nilCheck (Operand.tmp 7), type := 0, pos := "stm.go:53", after := _, guard := none } (v := ?vbr49b76) rfl (Or.inl ⟨by rfl, ?hybr49b76⟩) ?restbr49b76
        case hybr49b76 => (intro w hSw; (try dsimp only at hSw); go_simp <;> with_reducible rfl)
        try simp only [putW, setZ, setS]
        refine tkW 50 { dst := some 57, op := Op.fieldAddr 70 (Operand.tmp 56) 0, type := 0, pos := "stm.go:53", after := _, guard := none } (v := ?vbr50b77) rfl (Or.inl ⟨by rfl, ?hybr50b77⟩) ?restbr50b77
        case hybr50b77 => (intro w hSw; (try dsimp only at hSw); go_simp <;> with_reducible rfl)
        try simp only [putW, setZ, setS]
        refine tkW 51 { dst := some 58, op := Op.fieldAddr 46 (Operand.tmp 57) 3, type := 0, pos := "stm.go:53", after := _, guard := none } (v := ?vbr51b78) rfl (Or.inl ⟨by rfl, ?hybr51b78⟩) ?restbr51b78
        case hybr51b78 => (intro w hSw; (try dsimp only at hSw); go_simp <;> with_reducible rfl)
        try simp only [putW, setZ, setS]
        refine wpAnyH_ready (rs := [52]) (by kernel_rfl) (by simp) ?_
        refine AllReadyH.cons (o := { dst := none, op := Op.store 22 (Operand.tmp 58) (Operand.tmp 55), type := 0, pos := "stm.go:53", after := _, guard := none }) rfl (fun K hK => ?_) AllReadyH.nil
        go_simp
        skip
        refine hK.out _ _ ?_ (fun hHeldbr52b79 => ?_)
        · (obtain ⟨_, φ', A', c', x', hrun, _⟩ := HEND.out; exact ⟨hrun.tcells HK.out (j := 1) rfl, hrun.tcells HK.out (j := 2) rfl, hrun.tcells HK.out (j := 4) rfl, hrun.tcells HK.out (j := 5) rfl, (by have h7 := hrun.tcells HK.out (j := 7) rfl; rw [HNR.out] at h7; exact h7), (by have h8 := hrun.tcells HK.out (j := 8) rfl; rw [HNW.out] at h8; exact h8), hrun.tcells HK.out (j := 10) rfl, hrun.rcells 6, hrun.rcells 10⟩)
        clear hK K hHeldbr48b75
        try simp only [Act.put, List.setIfInBounds_toArray, List.set_cons_zero, List.set_cons_succ]
        refine wpAnyH_done (by kernel_rfl) ?_ _
        go_wp2
        go_end0
        exact HEND.out
      exact AllReadyH.nil
    exact AllReadyH.nil
  exact AllReadyH.nil

/-- What end leaves. -/
def DonePost (w0 : World) (r : Nat) (a : Ad) (m' : Mm) (k : Nat) (pw pm : Int) (pv : Value) (e : Ending) (w' : World) : Prop :=
  e = .returned (.tuple #[]) ∧ ∃ φ' a' m2, RunW w0 w' r φ' a' m2 pw pm pv (k : Int) ∧ m2.er = m'.er

set_option maxHeartbeats 4000000 in
theorem end_any {k : Nat} {t : Tx} (h : RunW w0 w r φ a m pw pm pv (k : Int)) (hk : m.T[k]? = some t) (how : Int) (hH : m.H.length ≤ 1000) (hR : t.R.length ≤ 1000) (hW : t.W.length ≤ 1000) (htx : 0 ≤ t.tx ∧ t.tx ≤ 1000) :
    Calls Try.prog 54 #[.pointer (some ⟨r, 0, none⟩), .int .i64 how] w (DonePost w0 r a (endM m k t how) k pw pm pv) := by
  have HT := Lib.hid (tell_any h hk how hH hR hW)
  have HO := Lib.hid (fun (w : World) φ' A c x (h : RunW w0 w r φ' { a with hA := A, hc := c } { m with H := m.H ++ [x] } pw pm pv (k : Int)) => over_any h (m := { m with H := m.H ++ [x] }) (t := t) hk how htx)
  clear h hk
  go_enter Try.func54, Try.ntmps54
  go_wp2_with fail
  refine HT.out.mono ?_
  rintro e w1 ⟨rfl, φ1, A1, c1, x1, h1, hx1⟩
  have H1 := Lib.hid h1
  have HX1 := Lib.hid hx1
  clear h1 hx1
  go_wp2_with fail
  refine (HO.out _ _ _ _ _ H1.out).mono ?_
  rintro e w2 ⟨rfl, h2⟩
  have H2 := Lib.hid h2
  clear h2
  go_wp2
  go_end0
  refine ⟨rfl, _, _, _, H2.out, ?_⟩
  unfold endM overM tellM Mm.er
  simp only [List.map_append, List.map_cons, List.map_nil, HX1.out]
  rfl
end
end Go.Proofs.Ytmcbnpeihedcaaa
