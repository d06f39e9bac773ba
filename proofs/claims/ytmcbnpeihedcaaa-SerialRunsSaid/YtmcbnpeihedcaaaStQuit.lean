/- quit: all locks are let go, and the try ends. -/
import Derived.Test.YtmcbnpeihedcaaaStHold
namespace Go.Proofs.Ytmcbnpeihedcaaa
set_option linter.unusedSimpArgs false
open Go Go.RowKit
set_option linter.unusedVariables false
set_option maxRecDepth 100000

section
variable {w0 w w' : World} {r : Nat} {φ : Nat → Nat} {a : Ad} {m : Mm} {pw pm : Int} {pv : Value}
/-- quit, between two rounds. -/
def QuI (w0 w : World) (r : Nat) (φ : Nat → Nat) (a : Ad) (m : Mm) (pw pm : Int) (pv : Value) (k : Nat) (i : Nat) (wr : World) : Prop :=
  ∃ A c, RunW w0 wr r φ { a with lA := A, lc := c } { m with L := dropN m.L (k : Int) i } pw pm pv (k : Int) ∧ RowL wr w0.heap.size (.slice a.lA m.L.length a.lc) m.L

set_option maxHeartbeats 4000000 in
theorem quit_any {k : Nat} {t : Tx} (h : RunW w0 w r φ a m pw pm pv (k : Int)) (hk : m.T[k]? = some t) (how : Int) (hmay : mayL m.now m.mx m.L = true) (hk4 : k < 4) (hH : m.H.length ≤ 1000) (hR : t.R.length ≤ 1000) (hW : t.W.length ≤ 1000) (htx : 0 ≤ t.tx ∧ t.tx ≤ 1000) :
    Calls Try.prog 58 #[.pointer (some ⟨r, 0, none⟩), .int .i64 how] w (DonePost w0 r a (quitM m k t how) k pw pm pv) := by
  have HMAY := Lib.hid hmay
  have hb := may_iff.1 hmay
  have hl0 := hb.2.2.2.1
  have hl8 := hb.2.2.2.2.1
  have HI0 := Lib.hid (show QuI w0 w r φ a m pw pm pv k 0 w from ⟨_, _, by simpa [dropN] using h, h.lrow⟩)
  have r3 : w.cell? ⟨r, 3, none⟩ = some (.slice a.lA m.L.length a.lc) := h.rcells 3
  have HE := Lib.hid (fun (w : World) A c (h : RunW w0 w r φ { a with lA := A, lc := c } { m with L := dropN m.L (k : Int) m.L.length } pw pm pv (k : Int)) => end_any h (m := { m with L := dropN m.L (k : Int) m.L.length }) (t := t) hk how hH hR hW htx)
  have HQ := Lib.hid (show dropN m.L (k : Int) m.L.length = m.L.map (dropO (k : Int)) from by unfold dropN; simp)
  have HK := Lib.hid hk
  obtain ⟨n, hn⟩ : ∃ n, n = m.L.length := ⟨_, rfl⟩
  rw [← hn] at hl0 hl8 r3
  obtain ⟨lA, hlA⟩ : ∃ x, x = a.lA := ⟨_, rfl⟩
  rw [← hlA] at r3
  have HLA := Lib.hid hlA
  clear hlA
  have HN := Lib.hid hn
  clear h hk hmay hb hn
  go_enter Try.func58, Try.ntmps58
  go_wp2_with fail
  clear r3
  go_loopg [13] n (fun gg s13 wr => ∃ i : Nat, s13 = .int .i64 i ∧ i ≤ n ∧ n - i ≤ gg ∧ Hid (QuI w0 w r φ a m pw pm pv k i wr))
  case atStart => exact ⟨0, by go_num, by omega, by omega, HI0.out⟩
  case round =>
    obtain ⟨i, rfl, hin, hg, HI⟩ := hrel
    by_cases hlt : i < n
    · have hltz : (i : Int) < (n : Int) := by omega
      have hi0 : (0 : Int) ≤ (i : Int) := by omega
      have hil : i < m.L.length := by rw [← HN.out]; exact hlt
      obtain ⟨A, c, hR1, hrow⟩ := HI.out
      have hrow' := hrow
      rw [← HLA.out] at hrow'
      obtain ⟨b, o, hA, hbl, hel⟩ := Sl.pos encL encL_len (Sl.of_own hrow') (by omega)
      clear hrow'
      subst hA
      have e0 := hel wr (Below.refl _ _) i hil 0 _ rfl
      have e1 := hel wr (Below.refl _ _) i hil 1 _ rfl
      simp only [Nat.add_zero] at e0
      obtain ⟨L, hL⟩ : ∃ L, L = dropN m.L (k : Int) i := ⟨_, rfl⟩
      have hL2 := dropN_len m.L (k : Int) i (by omega)
      have hat := dropN_at m.L (k : Int) i hil
      have hsu := dropN_succ m.L (k : Int) i hil
      have hmy := dropN_may HMAY.out (k : Int) i (by omega)
      rw [← hL] at hL2 hat hsu hmy hR1
      have hLi : i < L.length := by omega
      have HAT := Lib.hid (show L[i] = m.L[i] from by rw [List.getElem?_eq_getElem hLi] at hat; exact Option.some.inj hat)
      have HSU := Lib.hid hsu
      have HMY := Lib.hid hmy
      have HR1 := Lib.hid hR1
      have HROW := Lib.hid hrow
      have HLL := Lib.hid (show L.length = n from by rw [hL2, HN.out])
      have q1 : wr.cell? ⟨r, 1, none⟩ = some (.int .i64 m.now) := hR1.rcells 1
      have q2 : wr.cell? ⟨r, 2, none⟩ = some (.int .i64 m.mx) := hR1.rcells 2
      have q3 : wr.cell? ⟨r, 3, none⟩ = some (.slice A L.length c) := hR1.rcells 3
      have q10 : wr.cell? ⟨r, 10, none⟩ = some (.int .i64 (k : Int)) := hR1.rcells 10
      have qf1 := hR1.run.free 1
      have qf2 := hR1.run.free 2
      have qf3 := hR1.run.free 3
      have hrl : r < wr.heap.size := hR1.run.lt
      generalize m.L[i] = l at *
      clear hel hat hsu hmy hR1 hrow hL hL2
      obtain ⟨wb, hwb⟩ : ∃ x, wr.alloc (.cells #[.int .i64 l.v, .int .i64 l.o] 50) = x := ⟨_, rfl⟩
      have HWB := Lib.hid (show Below wr.heap.size wr wb from hwb ▸ (Below.refl _ _).alloc (Nat.le_refl _) _)
      have hbx : Blk wb wr.heap.size 50 #[.int .i64 l.v, .int .i64 l.o] := hwb ▸ Blk.new _ _ _
      have p1 : wb.cell? ⟨wr.heap.size, 1, none⟩ = some (.int .i64 l.o) := by rw [hbx.cell]; rfl
      have p10 : wb.cell? ⟨r, 10, none⟩ = some (.int .i64 (k : Int)) := (HWB.out.cell (p := ⟨r, 10, none⟩) hrl).trans q10
      have HBX := Lib.hid hbx
      clear hbx
      go_upto_region 3 with fail
      clear hwb e0 e1
      by_cases ho : l.o = (k : Int)
      · have hob : (l.o == (k : Int)) = true := by simpa using ho
        have HGV := Lib.hid (show giveL m.now m.mx L (i : Int) (k : Int) (-1) = (0, L.set i (dropO (k : Int) l)) from by
          have := give_drop HMY.out k hk4 i hLi (by rw [HAT.out]; exact ho)
          rw [HAT.out] at this; exact this)
        have HGC := Lib.hid (fun (W : World) (hb : Below wb.heap.size wb W) => HGV.out ▸ Give_any _ m.now m.mx (i : Int) (k : Int) (-1) L W ((HR1.out.keep HWB.out).keep hb).locks (by rw [HLL.out]; omega))
        have HCC := Lib.hid (fun (W : World) (hb : Below wb.heap.size wb W) => (show W.cell? ⟨r, 1, none⟩ = some (.int .i64 m.now) ∧ W.cell? ⟨r, 2, none⟩ = some (.int .i64 m.mx) ∧ W.cell? ⟨r, 3, none⟩ = some (.slice A L.length c) ∧ W.cell? ⟨r, 10, none⟩ = some (.int .i64 (k : Int)) from
          ⟨((HR1.out.keep HWB.out).keep hb).rcells 1, ((HR1.out.keep HWB.out).keep hb).rcells 2, ((HR1.out.keep HWB.out).keep hb).rcells 3, ((HR1.out.keep HWB.out).keep hb).rcells 10⟩))
        have HNX := Lib.hid (show dropO (k : Int) l = ⟨l.v, -1⟩ from by unfold dropO; rw [if_pos ho])
        clear ho
        refine wp_region_held_drew (S := fun W => W.cell? ⟨wr.heap.size, 1, none⟩ = some (.int .i64 l.o) ∧ W.cell? ⟨r, 10, none⟩ = some (.int .i64 (k : Int))) (by kernel_rfl) ?_ (fun hHeldbr => ?_)
        · exact ⟨p1, p10⟩
        refine tkW 0 { dst := some 18, op := Op.fieldAddr 50 (Operand.tmp 5) 1, type := 0, pos := "stm.go:75", after := _, guard := none } (v := ?vbr0) rfl (Or.inl ⟨by rfl, ?hybr0⟩) ?restbr0
        case hybr0 => (intro w hSw; (try dsimp only at hSw); go_simp <;> with_reducible rfl)
        try simp only [putW, setZ, setS]
        refine tkW 1 { dst := some 19, op := Op.load 3 (Operand.tmp 18), type := 3, pos := "stm.go:75", after := _, guard := none } (v := ?vbr1) rfl (Or.inl ⟨by rfl, ?hybr1⟩) ?restbr1
        case hybr1 => (intro w hSw; (try dsimp only at hSw); go_simp <;> with_reducible rfl)
        try simp only [putW, setZ, setS]
        refine tkW 2 { dst := some 20, op := Op.move (Operand.tmp 0), type := 68, pos := "stm.go:75", after := _, guard := none } (v := ?vbr2) rfl (Or.inl ⟨by rfl, ?hybr2⟩) ?restbr2
        case hybr2 => (intro w hSw; (try dsimp only at hSw); go_simp <;> with_reducible rfl)
        try simp only [putW, setZ, setS]
        refine tkW 3 { dst := some 21, op := Op.nilCheck (Operand.tmp 20), type := 0, pos := "stm.go:75", after := _, guard := none } (v := ?vbr3) rfl (Or.inl ⟨by rfl, ?hybr3⟩) ?restbr3
        case hybr3 => (intro w hSw; (try dsimp only at hSw); go_simp <;> with_reducible rfl)
        try simp only [putW, setZ, setS]
        refine tkW 4 { dst := some 22, op := Op.fieldAddr 70 (Operand.tmp 21) 2, type := 0, pos := "stm.go:75", after := _, guard := none } (v := ?vbr4) rfl (Or.inl ⟨by rfl, ?hybr4⟩) ?restbr4
        case hybr4 => (intro w hSw; (try dsimp only at hSw); go_simp <;> with_reducible rfl)
        try simp only [putW, setZ, setS]
        refine tkW 5 { dst := some 23, op := Op.load 3 (Operand.tmp 22), type := 3, pos := "stm.go:75", after := _, guard := none } (v := ?vbr5) rfl (Or.inl ⟨by rfl, ?hybr5⟩) ?restbr5
        case hybr5 => (intro w hSw; (try dsimp only at hSw); go_simp <;> with_reducible rfl)
        try simp only [putW, setZ, setS]
        refine tkW 6 { dst := some 24, op := Op.binOp BinOp.eql 3 (Operand.tmp 19) (Operand.tmp 23) 3, type := 4, pos := "stm.go:75", after := _, guard := none } (v := ?vbr6) rfl (Or.inl ⟨by rfl, ?hybr6⟩) ?restbr6
        case hybr6 => (intro w hSw; (try dsimp only at hSw); go_simp <;> with_reducible rfl)
        try simp only [putW, setZ, setS]
        refine wpAnyH_done (by kernel_rfl) ?_ _
        have u1 : wb.cell? ⟨r, 1, none⟩ = some (.int .i64 m.now) := (HCC.out _ (Below.refl _ _)).1
        have u2 : wb.cell? ⟨r, 2, none⟩ = some (.int .i64 m.mx) := (HCC.out _ (Below.refl _ _)).2.1
        have u3 : wb.cell? ⟨r, 3, none⟩ = some (.slice A L.length c) := (HCC.out _ (Below.refl _ _)).2.2.1
        have hrb : r < wb.heap.size := Nat.lt_of_lt_of_le hrl HWB.out.size
        clear p1 q1 q2 q3 q10 qf1 qf2 qf3
        go_wp2_with fail
        refine wp_region_held_drew (S := fun W => W.cell? ⟨r, 10, none⟩ = some (.int .i64 (k : Int))) (by kernel_rfl) ?_ (fun hHeldcr => ?_)
        · exact p10
        refine tkW 0 { dst := some 26, op := Op.move (Operand.tmp 0), type := 68, pos := "stm.go:76", after := _, guard := none } (v := ?vcr0b1) rfl (Or.inl ⟨by rfl, ?hycr0b1⟩) ?restcr0b1
        case hycr0b1 => (intro w hSw; (try dsimp only at hSw); go_simp <;> with_reducible rfl)
        try simp only [putW, setZ, setS]
        refine tkW 1 { dst := some 27, op := Op.move (Operand.tmp 0), type := 68, pos := "stm.go:76", after := _, guard := none } (v := ?vcr1b2) rfl (Or.inl ⟨by rfl, ?hycr1b2⟩) ?restcr1b2
        case hycr1b2 => (intro w hSw; (try dsimp only at hSw); go_simp <;> with_reducible rfl)
        try simp only [putW, setZ, setS]
        refine tkW 2 { dst := some 28, op := Op.nilCheck (Operand.tmp 27), type := 0, pos := "stm.go:76", after := _, guard := none } (v := ?vcr2b3) rfl (Or.inl ⟨by rfl, ?hycr2b3⟩) ?restcr2b3
        case hycr2b3 => (intro w hSw; (try dsimp only at hSw); go_simp <;> with_reducible rfl)
        try simp only [putW, setZ, setS]
        refine tkW 3 { dst := some 29, op := Op.fieldAddr 70 (Operand.tmp 28) 0, type := 0, pos := "stm.go:76", after := _, guard := none } (v := ?vcr3b4) rfl (Or.inl ⟨by rfl, ?hycr3b4⟩) ?restcr3b4
        case hycr3b4 => (intro w hSw; (try dsimp only at hSw); go_simp <;> with_reducible rfl)
        try simp only [putW, setZ, setS]
        refine tkW 4 { dst := some 30, op := Op.fieldAddr 46 (Operand.tmp 29) 1, type := 0, pos := "stm.go:76", after := _, guard := none } (v := ?vcr4b5) rfl (Or.inl ⟨by rfl, ?hycr4b5⟩) ?restcr4b5
        case hycr4b5 => (intro w hSw; (try dsimp only at hSw); go_simp <;> with_reducible rfl)
        try simp only [putW, setZ, setS]
        refine tkW 6 { dst := some 32, op := Op.move (Operand.tmp 4), type := 3, pos := "stm.go:76", after := _, guard := none } (v := ?vcr6b6) rfl (Or.inl ⟨by rfl, ?hycr6b6⟩) ?restcr6b6
        case hycr6b6 => (intro w hSw; (try dsimp only at hSw); go_simp <;> with_reducible rfl)
        try simp only [putW, setZ, setS]
        refine tkW 7 { dst := some 33, op := Op.move (Operand.tmp 0), type := 68, pos := "stm.go:76", after := _, guard := none } (v := ?vcr7b7) rfl (Or.inl ⟨by rfl, ?hycr7b7⟩) ?restcr7b7
        case hycr7b7 => (intro w hSw; (try dsimp only at hSw); go_simp <;> with_reducible rfl)
        try simp only [putW, setZ, setS]
        refine tkW 8 { dst := some 34, op := Op.nilCheck (Operand.tmp 33), type := 0, pos := "stm.go:76", after := _, guard := none } (v := ?vcr8b8) rfl (Or.inl ⟨by rfl, ?hycr8b8⟩) ?restcr8b8
        case hycr8b8 => (intro w hSw; (try dsimp only at hSw); go_simp <;> with_reducible rfl)
        try simp only [putW, setZ, setS]
        refine tkW 9 { dst := some 35, op := Op.fieldAddr 70 (Operand.tmp 34) 2, type := 0, pos := "stm.go:76", after := _, guard := none } (v := ?vcr9b9) rfl (Or.inl ⟨by rfl, ?hycr9b9⟩) ?restcr9b9
        case hycr9b9 => (intro w hSw; (try dsimp only at hSw); go_simp <;> with_reducible rfl)
        try simp only [putW, setZ, setS]
        refine tkW 10 { dst := some 36, op := Op.load 3 (Operand.tmp 35), type := 3, pos := "stm.go:76", after := _, guard := none } (v := ?vcr10b10) rfl (Or.inl ⟨by rfl, ?hycr10b10⟩) ?restcr10b10
        case hycr10b10 => (intro w hSw; (try dsimp only at hSw); go_simp <;> with_reducible rfl)
        try simp only [putW, setZ, setS]
        refine wpAnyH_ready (rs := [5]) (by kernel_rfl) (by simp) ?_
        refine AllReadyH.cons (o := { dst := some 31, op := Op.load 43 (Operand.tmp 30), type := 43, pos := "stm.go:76", after := _, guard := none }) rfl (fun K hK => ?_) AllReadyH.nil
        go_simp
        skip
        refine hK.out _ _ ?_ (fun hHeldcr5b11 => ?_)
        · exact p10
        clear hK K hHeldcr
        try simp only [Act.put, List.setIfInBounds_toArray, List.set_cons_zero, List.set_cons_succ]
        refine wpAnyH_ready (rs := [11]) (by kernel_rfl) (by simp) ?_
        refine AllReadyH.cons (o := { dst := some 37, op := Op.call { callee := Callee.value (Operand.func 62), args := #[Operand.tmp 31, Operand.tmp 32, Operand.tmp 36, Operand.const (Value.int IntKind.i64 (-1))], argTypes := #[43, 3, 3, 3] }, type := 98, pos := "stm.go:76", after := _, guard := none }) rfl (fun K hK => ?_) AllReadyH.nil
        go_simp
        refine (HGC.out _ (Below.refl _ _).drew.drew).mono ?_
        rintro e w3 ⟨v3, rfl, ⟨sv3, rfl, hrow3⟩, hb3⟩
        dsimp only at hrow3
        obtain ⟨A3, c3, rfl, _, _⟩ := (Sl.of_own hrow3).form
        have hX : Below wb.heap.size wb w3 := (Below.refl _ _).drew.drew.trans hb3
        have z1 := (hX.cell (p := ⟨r, 1, none⟩) hrb).trans u1
        have z2 := (hX.cell (p := ⟨r, 2, none⟩) hrb).trans u2
        have z3 := (hX.cell (p := ⟨r, 3, none⟩) hrb).trans u3
        have z10 := (hX.cell (p := ⟨r, 10, none⟩) hrb).trans p10
        have HX := Lib.hid hX
        have H3 := Lib.hid ((HR1.out.keep HWB.out).keep hX)
        have zf1 := H3.out.run.free 1
        have zf2 := H3.out.run.free 2
        have zf3 := H3.out.run.free 3
        have HROW3 := Lib.hid hrow3
        clear hX hrow3 hb3
        try go_wp2_with fail
        refine hK.out _ _ ?_ (fun hHeldcr11b12 => ?_)
        · exact z10
        clear hK K hHeldcr5b11
        try simp only [Act.put, List.setIfInBounds_toArray, List.set_cons_zero, List.set_cons_succ]
        refine tkW 12 { dst := some 25, op := Op.move (Operand.tmp 37), type := 98, pos := "stm.go:76", after := _, guard := none } (v := ?vcr12b13) rfl (Or.inl ⟨by rfl, ?hycr12b13⟩) ?restcr12b13
        case hycr12b13 => (intro w hSw; (try dsimp only at hSw); go_simp <;> with_reducible rfl)
        try simp only [putW, setZ, setS]
        refine tkW 13 { dst := some 38, op := Op.extract (Operand.tmp 25) 0, type := 43, pos := "stm.go:76", after := _, guard := none } (v := ?vcr13b14) rfl (Or.inl ⟨by rfl, ?hycr13b14⟩) ?restcr13b14
        case hycr13b14 => (intro w hSw; (try dsimp only at hSw); go_simp <;> with_reducible rfl)
        try simp only [putW, setZ, setS]
        refine tkW 14 { dst := some 39, op := Op.extract (Operand.tmp 25) 1, type := 97, pos := "stm.go:76", after := _, guard := none } (v := ?vcr14b15) rfl (Or.inl ⟨by rfl, ?hycr14b15⟩) ?restcr14b15
        case hycr14b15 => (intro w hSw; (try dsimp only at hSw); go_simp <;> with_reducible rfl)
        try simp only [putW, setZ, setS]
        refine tkW 15 { dst := some 40, op := Op.nilCheck (Operand.tmp 26), type := 0, pos := "stm.go:76", after := _, guard := none } (v := ?vcr15b16) rfl (Or.inl ⟨by rfl, ?hycr15b16⟩) ?restcr15b16
        case hycr15b16 => (intro w hSw; (try dsimp only at hSw); go_simp <;> with_reducible rfl)
        try simp only [putW, setZ, setS]
        refine tkW 16 { dst := some 41, op := Op.fieldAddr 70 (Operand.tmp 40) 0, type := 0, pos := "stm.go:76", after := _, guard := none } (v := ?vcr16b17) rfl (Or.inl ⟨by rfl, ?hycr16b17⟩) ?restcr16b17
        case hycr16b17 => (intro w hSw; (try dsimp only at hSw); go_simp <;> with_reducible rfl)
        try simp only [putW, setZ, setS]
        refine tkW 17 { dst := some 42, op := Op.fieldAddr 46 (Operand.tmp 41) 1, type := 0, pos := "stm.go:76", after := _, guard := none } (v := ?vcr17b18) rfl (Or.inl ⟨by rfl, ?hycr17b18⟩) ?restcr17b18
        case hycr17b18 => (intro w hSw; (try dsimp only at hSw); go_simp <;> with_reducible rfl)
        try simp only [putW, setZ, setS]
        refine wpAnyH_ready (rs := [18]) (by kernel_rfl) (by simp) ?_
        refine AllReadyH.cons (o := { dst := none, op := Op.store 43 (Operand.tmp 42) (Operand.tmp 38), type := 0, pos := "stm.go:76", after := _, guard := none }) rfl (fun K hK => ?_) AllReadyH.nil
        go_simp
        skip
        refine hK.out _ _ ?_ (fun hHeldcr18b19 => ?_)
        · go_simp
        clear hK K hHeldcr11b12
        try simp only [Act.put, List.setIfInBounds_toArray, List.set_cons_zero, List.set_cons_succ]
        refine wpAnyH_done (by kernel_rfl) ?_ _
        go_wp2
        go_roundg (n - (i + 1))
        case measure => omega
        case rel => exact ⟨i + 1, by go_num, by omega, by omega, (show Hid _ from ⟨A3, c3, by (have e := H3.out.setC (now := m.now) (mx := m.mx) (ownsRow_mono HROW3.out (by have h1 := HR1.out.base.size; have h2 := HWB.out.size; simp; omega))); rw [HSU.out]; rw [List.length_set] at e; exact e, own_ty (own_below (own_below HROW.out HWB.out) HX.out) (grown_trans (grown_trans (grown_setCell _ ⟨r, 1, none⟩ _) (grown_setCell _ ⟨r, 2, none⟩ _)) (grown_setCell _ ⟨r, 3, none⟩ _)) H3.out.run (by decide)⟩)⟩
      · have hob : (l.o == (k : Int)) = false := by simpa using ho
        have HNX := Lib.hid (show dropO (k : Int) l = l from by unfold dropO; rw [if_neg ho])
        clear ho
        refine wp_region_held_drew (S := fun W => W.cell? ⟨wr.heap.size, 1, none⟩ = some (.int .i64 l.o) ∧ W.cell? ⟨r, 10, none⟩ = some (.int .i64 (k : Int))) (by kernel_rfl) ?_ (fun hHelddr => ?_)
        · exact ⟨p1, p10⟩
        refine tkW 0 { dst := some 18, op := Op.fieldAddr 50 (Operand.tmp 5) 1, type := 0, pos := "stm.go:75", after := _, guard := none } (v := ?vdr0) rfl (Or.inl ⟨by rfl, ?hydr0⟩) ?restdr0
        case hydr0 => (intro w hSw; (try dsimp only at hSw); go_simp <;> with_reducible rfl)
        try simp only [putW, setZ, setS]
        refine tkW 1 { dst := some 19, op := Op.load 3 (Operand.tmp 18), type := 3, pos := "stm.go:75", after := _, guard := none } (v := ?vdr1) rfl (Or.inl ⟨by rfl, ?hydr1⟩) ?restdr1
        case hydr1 => (intro w hSw; (try dsimp only at hSw); go_simp <;> with_reducible rfl)
        try simp only [putW, setZ, setS]
        refine tkW 2 { dst := some 20, op := Op.move (Operand.tmp 0), type := 68, pos := "stm.go:75", after := _, guard := none } (v := ?vdr2) rfl (Or.inl ⟨by rfl, ?hydr2⟩) ?restdr2
        case hydr2 => (intro w hSw; (try dsimp only at hSw); go_simp <;> with_reducible rfl)
        try simp only [putW, setZ, setS]
        refine tkW 3 { dst := some 21, op := Op.nilCheck (Operand.tmp 20), type := 0, pos := "stm.go:75", after := _, guard := none } (v := ?vdr3) rfl (Or.inl ⟨by rfl, ?hydr3⟩) ?restdr3
        case hydr3 => (intro w hSw; (try dsimp only at hSw); go_simp <;> with_reducible rfl)
        try simp only [putW, setZ, setS]
        refine tkW 4 { dst := some 22, op := Op.fieldAddr 70 (Operand.tmp 21) 2, type := 0, pos := "stm.go:75", after := _, guard := none } (v := ?vdr4) rfl (Or.inl ⟨by rfl, ?hydr4⟩) ?restdr4
        case hydr4 => (intro w hSw; (try dsimp only at hSw); go_simp <;> with_reducible rfl)
        try simp only [putW, setZ, setS]
        refine tkW 5 { dst := some 23, op := Op.load 3 (Operand.tmp 22), type := 3, pos := "stm.go:75", after := _, guard := none } (v := ?vdr5) rfl (Or.inl ⟨by rfl, ?hydr5⟩) ?restdr5
        case hydr5 => (intro w hSw; (try dsimp only at hSw); go_simp <;> with_reducible rfl)
        try simp only [putW, setZ, setS]
        refine tkW 6 { dst := some 24, op := Op.binOp BinOp.eql 3 (Operand.tmp 19) (Operand.tmp 23) 3, type := 4, pos := "stm.go:75", after := _, guard := none } (v := ?vdr6) rfl (Or.inl ⟨by rfl, ?hydr6⟩) ?restdr6
        case hydr6 => (intro w hSw; (try dsimp only at hSw); go_simp <;> with_reducible rfl)
        try simp only [putW, setZ, setS]
        refine wpAnyH_done (by kernel_rfl) ?_ _
        clear p1 p10 q1 q2 q3 q10 qf1 qf2 qf3
        go_wp2
        go_roundg (n - (i + 1))
        case measure => omega
        case rel =>
          refine ⟨i + 1, by go_num, by omega, by omega, (show Hid _ from ⟨A, c, ?_, ?_⟩)⟩
          · have e : L.set i (dropO (k : Int) l) = L := by rw [HNX.out, ← HAT.out, List.set_getElem_self]
            rw [HSU.out, e]
            exact (HR1.out.keep HWB.out).keep (Below.refl _ _).drew
          · exact own_below (own_below HROW.out HWB.out) (Below.refl _ _).drew
    · obtain rfl : n = i := by omega
      obtain ⟨A, c, hR1, hrow⟩ := HI.out
      rw [HN.out] at hR1
      have HR1 := Lib.hid hR1
      clear hR1 hrow
      go_wp2_with fail
      refine (HE.out _ _ _ HR1.out).mono ?_
      rintro e w3 ⟨rfl, φ', a', m2, h2, he⟩
      have HP := Lib.hid (And.intro h2 he)
      clear h2 he
      go_wp2
      go_end0
      exact ⟨rfl, φ', a', m2, HP.out.1, HP.out.2.trans (by unfold quitM; rw [HQ.out])⟩
end
end Go.Proofs.Ytmcbnpeihedcaaa
