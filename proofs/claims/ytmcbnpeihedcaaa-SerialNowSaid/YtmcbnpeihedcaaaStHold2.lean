/- hold: a lock is taken. -/
import Derived.Test.YtmcbnpeihedcaaaStTick
namespace Go.Proofs.Ytmcbnpeihedcaaa
set_option linter.unusedSimpArgs false
open Go Go.RowKit
set_option linter.unusedVariables false
set_option maxRecDepth 100000

section
variable {w0 w w' : World} {r : Nat} {φ : Nat → Nat} {a : Ad} {m : Mm} {pw pm : Int} {pv : Value}

set_option maxHeartbeats 4000000 in
theorem hold_any {k : Nat} {t : Tx} (h : RunW w0 w r φ a m pw pm pv (k : Int)) (hk : m.T[k]? = some t) (hmay : mayL m.now m.mx m.L = true) (hk4 : k < 4) (hH : m.H.length ≤ 1000) (hR : t.R.length ≤ 1000) (hW : t.W.length ≤ 1000) (htx : 0 ≤ t.tx ∧ t.tx ≤ 1000)
    (j : Nat) (hi : t.i = (j : Int)) (hj : j < t.W.length) :
    Calls Try.prog 44 #[.pointer (some ⟨r, 0, none⟩)] w (DonePost w0 r a (holdM m k t) k pw pm pv) := by
  have hb := may_iff.1 hmay
  obtain ⟨x, hx⟩ : ∃ x, t.W[j]? = some x := ⟨_, List.getElem?_eq_getElem hj⟩
  obtain ⟨er, L', hq⟩ : ∃ x' y, takeL m.now m.mx m.L x.at_ (k : Int) = (x', y) := ⟨_, _, rfl⟩
  have hL' : L'.length = m.L.length := by have := doL_len (takeF (k : Int)) m.now m.mx m.L x.at_ (someB (k : Int)); unfold takeL at hq; rw [hq] at this; exact this
  have hspec : holdM m k t = if er = 0 then { m with L := L', T := m.T.set k { t with i := t.i + 1, st := if t.i + 1 = t.W.length then 3 else t.st } } else quitM m k t 1 := by
    unfold holdM
    rw [hi, Int.toNat_natCast, hx]
    simp only [hq]
  have HME := Lib.hid (me_any h hk)
  have HH := Lib.hid h
  have HK := Lib.hid hk
  have hrl := h.run.lt
  have HQT := Lib.hid (fun W (hb : Below w.heap.size w W) => quit_any (h.keep hb) hk 1 hmay hk4 hH hR hW htx)
  have HS := Lib.hid hspec
  have HLL := Lib.hid hL'
  have HTK := Lib.hid (fun W (hb : Below w.heap.size w W) => hq ▸ Take_any _ m.now m.mx x.at_ (k : Int) m.L W (h.keep hb).locks (by omega))
  have hT := h.apart.2.2.2.1
  have hne := h.apart.1
  have HZ0 := Lib.hid h.base.size
  obtain ⟨b, hbA, _, hWc, hcM, _, _⟩ := (h.ts k t hk).W.pairs (by omega)
  have HPC := Lib.hid (fun W (hb : Below w.heap.size w W) => (show W.cell? ⟨b, j * 2, none⟩ = some (.int .i64 x.at_) from by
    obtain ⟨b', hbA', _, _, _, _, hp⟩ := ((h.keep hb).ts k t hk).W.pairs (by omega)
    rw [hbA] at hbA'
    injection hbA' with e
    injection e with e
    subst e
    exact (hp j x hx).1))
  obtain ⟨nW, hnW⟩ : ∃ n, n = t.W.length := ⟨_, rfl⟩
  have hjz : (j : Int) < (nW : Int) := by omega
  have hj0 : (0 : Int) ≤ (j : Int) := by omega
  have hwr : IntKind.i64.wrap ((j : Int) + 1) = (j : Int) + 1 := by rw [IntKind.wrap_i64]; omega
  have HC := Lib.hid (fun W (hb : Below w.heap.size w W) => (show W.cell? ⟨r, 1, none⟩ = some (.int .i64 m.now) ∧ W.cell? ⟨r, 2, none⟩ = some (.int .i64 m.mx) ∧ W.cell? ⟨r, 3, none⟩ = some (.slice a.lA m.L.length a.lc) ∧ W.cell? ⟨r, 10, none⟩ = some (.int .i64 (k : Int)) ∧ W.cell? ⟨a.gT, k * 11 + 8, none⟩ = some (.slice (some ⟨b, 0, none⟩) nW t.wc) ∧ W.cell? ⟨a.gT, k * 11 + 9, none⟩ = some (.int .i64 (j : Int)) ∧ W.cell? ⟨b, j * 2, none⟩ = some (.int .i64 x.at_) from
    ⟨(h.keep hb).rcells 1, (h.keep hb).rcells 2, (h.keep hb).rcells 3, (h.keep hb).rcells 10, by have e := (h.keep hb).tcells hk (j := 8) rfl; rw [hbA, ← hnW] at e; exact e, by have e := (h.keep hb).tcells hk (j := 9) rfl; rw [hi] at e; exact e, HPC.out W hb⟩))
  have HI := Lib.hid hi
  have HNW := Lib.hid hnW
  have HBA := Lib.hid hbA
  clear h hk hmay hb hq hspec hL' hx hi hbA hnW HPC
  go_enter Try.func44, Try.ntmps44
  go_wp2_with fail
  refine HME.out.mono ?_
  rintro e w1 ⟨rfl, hb1⟩
  have HB1 := Lib.hid hb1
  have hz1 := hb1.size
  have hrl1 : r < w1.heap.size := by omega
  clear hb1 HME
  go_upto_region 1 with fail
  go_cut [3, 4] (fun s3 s4 wx => ∃ B A3 c3, s3 = .pointer (some ⟨B, 0, none⟩) ∧ s4 = .int .i64 er ∧ w1.heap.size ≤ B ∧ Hid (Below w1.heap.size w1 wx) ∧ Hid (Blk wx B 43 #[.int .i64 m.now, .int .i64 m.mx, .slice A3 m.L.length c3]) ∧ Hid (RowL wx w0.heap.size (.slice A3 m.L.length c3) L'))
  case first =>
    refine wp_region_held_drew (S := fun W => W.cell? ⟨r, 1, none⟩ = some (.int .i64 m.now) ∧ W.cell? ⟨r, 2, none⟩ = some (.int .i64 m.mx) ∧ W.cell? ⟨r, 3, none⟩ = some (.slice a.lA m.L.length a.lc) ∧ W.cell? ⟨r, 10, none⟩ = some (.int .i64 (k : Int)) ∧ W.cell? ⟨a.gT, k * 11 + 8, none⟩ = some (.slice (some ⟨b, 0, none⟩) nW t.wc) ∧ W.cell? ⟨a.gT, k * 11 + 9, none⟩ = some (.int .i64 (j : Int)) ∧ W.cell? ⟨b, j * 2, none⟩ = some (.int .i64 x.at_)) (by kernel_rfl) ?_ (fun hHeldbr => ?_)
    · exact HC.out _ (HB1.out.trans ((Below.refl _ _).drew.mono HB1.out.size))
    refine tkW 0 { dst := some 8, op := Op.move (Operand.tmp 0), type := 68, pos := "stm.go:153", after := _, guard := none } (v := ?vbr0b1) rfl (Or.inl ⟨by rfl, ?hybr0b1⟩) ?restbr0b1
    case hybr0b1 => (intro w hSw; (try dsimp only at hSw); go_simp <;> with_reducible rfl)
    try simp only [putW, setZ, setS]
    refine tkW 1 { dst := some 9, op := Op.nilCheck (Operand.tmp 8), type := 0, pos := "stm.go:153", after := _, guard := none } (v := ?vbr1b2) rfl (Or.inl ⟨by rfl, ?hybr1b2⟩) ?restbr1b2
    case hybr1b2 => (intro w hSw; (try dsimp only at hSw); go_simp <;> with_reducible rfl)
    try simp only [putW, setZ, setS]
    refine tkW 2 { dst := some 10, op := Op.fieldAddr 70 (Operand.tmp 9) 0, type := 0, pos := "stm.go:153", after := _, guard := none } (v := ?vbr2b3) rfl (Or.inl ⟨by rfl, ?hybr2b3⟩) ?restbr2b3
    case hybr2b3 => (intro w hSw; (try dsimp only at hSw); go_simp <;> with_reducible rfl)
    try simp only [putW, setZ, setS]
    refine tkW 3 { dst := some 11, op := Op.fieldAddr 46 (Operand.tmp 10) 1, type := 0, pos := "stm.go:153", after := _, guard := none } (v := ?vbr3b4) rfl (Or.inl ⟨by rfl, ?hybr3b4⟩) ?restbr3b4
    case hybr3b4 => (intro w hSw; (try dsimp only at hSw); go_simp <;> with_reducible rfl)
    try simp only [putW, setZ, setS]
    refine tkW 4 { dst := some 12, op := Op.load 43 (Operand.tmp 11), type := 43, pos := "stm.go:153", after := _, guard := none } (v := ?vbr4b5) rfl (Or.inl ⟨by rfl, ?hybr4b5⟩) ?restbr4b5
    case hybr4b5 => (intro w hSw; (try dsimp only at hSw); go_simp <;> with_reducible rfl)
    try simp only [putW, setZ, setS]
    refine tkW 5 { dst := some 13, op := Op.move (Operand.tmp 2), type := 84, pos := "stm.go:153", after := _, guard := none } (v := ?vbr5b6) rfl (Or.inl ⟨by rfl, ?hybr5b6⟩) ?restbr5b6
    case hybr5b6 => (intro w hSw; (try dsimp only at hSw); go_simp <;> with_reducible rfl)
    try simp only [putW, setZ, setS]
    refine tkW 6 { dst := some 14, op := Op.nilCheck (Operand.tmp 13), type := 0, pos := "stm.go:153", after := _, guard := none } (v := ?vbr6b7) rfl (Or.inl ⟨by rfl, ?hybr6b7⟩) ?restbr6b7
    case hybr6b7 => (intro w hSw; (try dsimp only at hSw); go_simp <;> with_reducible rfl)
    try simp only [putW, setZ, setS]
    refine tkW 7 { dst := some 15, op := Op.fieldAddr 52 (Operand.tmp 14) 8, type := 0, pos := "stm.go:153", after := _, guard := none } (v := ?vbr7b8) rfl (Or.inl ⟨by rfl, ?hybr7b8⟩) ?restbr7b8
    case hybr7b8 => (intro w hSw; (try dsimp only at hSw); go_simp <;> with_reducible rfl)
    try simp only [putW, setZ, setS]
    refine tkW 8 { dst := some 16, op := Op.load 25 (Operand.tmp 15), type := 25, pos := "stm.go:153", after := _, guard := none } (v := ?vbr8b9) rfl (Or.inl ⟨by rfl, ?hybr8b9⟩) ?restbr8b9
    case hybr8b9 => (intro w hSw; (try dsimp only at hSw); go_simp <;> with_reducible rfl)
    try simp only [putW, setZ, setS]
    refine tkW 9 { dst := some 17, op := Op.move (Operand.tmp 2), type := 84, pos := "stm.go:153", after := _, guard := none } (v := ?vbr9b10) rfl (Or.inl ⟨by rfl, ?hybr9b10⟩) ?restbr9b10
    case hybr9b10 => (intro w hSw; (try dsimp only at hSw); go_simp <;> with_reducible rfl)
    try simp only [putW, setZ, setS]
    refine tkW 10 { dst := some 18, op := Op.nilCheck (Operand.tmp 17), type := 0, pos := "stm.go:153", after := _, guard := none } (v := ?vbr10b11) rfl (Or.inl ⟨by rfl, ?hybr10b11⟩) ?restbr10b11
    case hybr10b11 => (intro w hSw; (try dsimp only at hSw); go_simp <;> with_reducible rfl)
    try simp only [putW, setZ, setS]
    refine tkW 11 { dst := some 19, op := Op.fieldAddr 52 (Operand.tmp 18) 9, type := 0, pos := "stm.go:153", after := _, guard := none } (v := ?vbr11b12) rfl (Or.inl ⟨by rfl, ?hybr11b12⟩) ?restbr11b12
    case hybr11b12 => (intro w hSw; (try dsimp only at hSw); go_simp <;> with_reducible rfl)
    try simp only [putW, setZ, setS]
    refine tkW 12 { dst := some 20, op := Op.load 3 (Operand.tmp 19), type := 3, pos := "stm.go:153", after := _, guard := none } (v := ?vbr12b13) rfl (Or.inl ⟨by rfl, ?hybr12b13⟩) ?restbr12b13
    case hybr12b13 => (intro w hSw; (try dsimp only at hSw); go_simp <;> with_reducible rfl)
    try simp only [putW, setZ, setS]
    refine tkW 13 { dst := some 21, op := Op.indexAddr 25 (Operand.tmp 16) (Operand.tmp 20), type := 0, pos := "stm.go:153", after := _, guard := none } (v := ?vbr13b14) rfl (Or.inl ⟨by rfl, ?hybr13b14⟩) ?restbr13b14
    case hybr13b14 => (intro w hSw; (try dsimp only at hSw); go_simp <;> with_reducible rfl)
    try simp only [putW, setZ, setS]
    refine tkW 14 { dst := some 22, op := Op.fieldAddr 34 (Operand.tmp 21) 0, type := 0, pos := "stm.go:153", after := _, guard := none } (v := ?vbr14b15) rfl (Or.inl ⟨by rfl, ?hybr14b15⟩) ?restbr14b15
    case hybr14b15 => (intro w hSw; (try dsimp only at hSw); go_simp <;> with_reducible rfl)
    try simp only [putW, setZ, setS]
    refine tkW 15 { dst := some 23, op := Op.load 3 (Operand.tmp 22), type := 3, pos := "stm.go:153", after := _, guard := none } (v := ?vbr15b16) rfl (Or.inl ⟨by rfl, ?hybr15b16⟩) ?restbr15b16
    case hybr15b16 => (intro w hSw; (try dsimp only at hSw); go_simp <;> with_reducible rfl)
    try simp only [putW, setZ, setS]
    refine tkW 16 { dst := some 24, op := Op.move (Operand.tmp 0), type := 68, pos := "stm.go:153", after := _, guard := none } (v := ?vbr16b17) rfl (Or.inl ⟨by rfl, ?hybr16b17⟩) ?restbr16b17
    case hybr16b17 => (intro w hSw; (try dsimp only at hSw); go_simp <;> with_reducible rfl)
    try simp only [putW, setZ, setS]
    refine tkW 17 { dst := some 25, op := Op.nilCheck (Operand.tmp 24), type := 0, pos := "stm.go:153", after := _, guard := none } (v := ?vbr17b18) rfl (Or.inl ⟨by rfl, ?hybr17b18⟩) ?restbr17b18
    case hybr17b18 => (intro w hSw; (try dsimp only at hSw); go_simp <;> with_reducible rfl)
    try simp only [putW, setZ, setS]
    refine tkW 18 { dst := some 26, op := Op.fieldAddr 70 (Operand.tmp 25) 2, type := 0, pos := "stm.go:153", after := _, guard := none } (v := ?vbr18b19) rfl (Or.inl ⟨by rfl, ?hybr18b19⟩) ?restbr18b19
    case hybr18b19 => (intro w hSw; (try dsimp only at hSw); go_simp <;> with_reducible rfl)
    try simp only [putW, setZ, setS]
    refine tkW 19 { dst := some 27, op := Op.load 3 (Operand.tmp 26), type := 3, pos := "stm.go:153", after := _, guard := none } (v := ?vbr19b20) rfl (Or.inl ⟨by rfl, ?hybr19b20⟩) ?restbr19b20
    case hybr19b20 => (intro w hSw; (try dsimp only at hSw); go_simp <;> with_reducible rfl)
    try simp only [putW, setZ, setS]
    refine wpAnyH_ready (rs := [20, 24]) (by kernel_rfl) (by simp) ?_
    refine AllReadyH.cons (o := { dst := some 28, op := Op.call { callee := Callee.value (Operand.func 57), args := #[Operand.tmp 12, Operand.tmp 23, Operand.tmp 27], argTypes := #[43, 3, 3] }, type := 98, pos := "stm.go:153", after := _, guard := none }) rfl (fun K hK => ?_) ?_
    · go_simp
      first | refine (HTK.out _ (HB1.out.trans ((Below.refl _ _).drew.mono HB1.out.size))).mono ?_ | refine (HTK.out _ (HB1.out.trans (((Below.refl w1.heap.size w1).drew.alloc (Nat.le_refl _) _).mono HB1.out.size))).mono ?_
      rintro e w3 ⟨v3, rfl, ⟨sv3, rfl, hrow3⟩, hb3⟩
      dsimp only at hrow3 ⊢
      obtain ⟨A3, c3, rfl, _, _⟩ := (Sl.of_own hrow3).form
      rw [HLL.out] at hrow3 ⊢
      have hX : Below w1.heap.size w1 w3 := Below.trans (by first | exact (Below.refl _ _).drew | exact (Below.refl w1.heap.size w1).drew.alloc (Nat.le_refl _) _) (hb3.mono (by first | exact Nat.le_refl _ | (simp; done) | (simp; omega)))
      have HX := Lib.hid hX
      have HROW3 := Lib.hid hrow3
      have HB3 := Lib.hid hb3
      obtain ⟨hc3, hf3⟩ := bcell hb3
      have hz3 := hb3.size
      simp at hz3
      clear hX hrow3 hb3
      try go_wp2_with fail
      refine hK.out _ _ ?_ (fun hHeldbr20b21 => ?_)
      · exact HC.out _ (HB1.out.trans (HX.out.mono HB1.out.size))
      clear hK K hHeldbr
      try simp only [Act.put, List.setIfInBounds_toArray, List.set_cons_zero, List.set_cons_succ]
      refine tkW 21 { dst := some 7, op := Op.move (Operand.tmp 28), type := 98, pos := "stm.go:153", after := _, guard := none } (v := ?vbr21b22) rfl (Or.inl ⟨by rfl, ?hybr21b22⟩) ?restbr21b22
      case hybr21b22 => (intro w hSw; (try dsimp only at hSw); go_simp <;> with_reducible rfl)
      try simp only [putW, setZ, setS]
      refine tkW 22 { dst := some 29, op := Op.extract (Operand.tmp 7) 0, type := 43, pos := "stm.go:153", after := _, guard := none } (v := ?vbr22b23) rfl (Or.inl ⟨by rfl, ?hybr22b23⟩) ?restbr22b23
      case hybr22b23 => (intro w hSw; (try dsimp only at hSw); go_simp <;> with_reducible rfl)
      try simp only [putW, setZ, setS]
      refine tkW 23 { dst := some 30, op := Op.extract (Operand.tmp 7) 1, type := 97, pos := "stm.go:153", after := _, guard := none } (v := ?vbr23b24) rfl (Or.inl ⟨by rfl, ?hybr23b24⟩) ?restbr23b24
      case hybr23b24 => (intro w hSw; (try dsimp only at hSw); go_simp <;> with_reducible rfl)
      try simp only [putW, setZ, setS]
      refine wpAnyH_ready (rs := [24]) (by kernel_rfl) (by simp) ?_
      refine AllReadyH.cons (o := { dst := some 3, op := Op.alloc 43, type := 0, pos := "stm.go:153", after := _, guard := none }) rfl (fun K hK => ?_) AllReadyH.nil
      go_simp
      skip
      refine hK.out _ _ ?_ (fun hHeldbr24b25 => ?_)
      · first | exact HC.out _ (HB1.out.trans ((HX.out.alloc HX.out.size _).mono HB1.out.size)) | exact HC.out _ (HB1.out.trans (((Below.refl w1.heap.size w1).drew.alloc (Nat.le_refl _) _).mono HB1.out.size))
      clear hK K hHeldbr20b21
      try simp only [Act.put, List.setIfInBounds_toArray, List.set_cons_zero, List.set_cons_succ]
      refine wpAnyH_ready (rs := [25]) (by kernel_rfl) (by simp) ?_
      refine AllReadyH.cons (o := { dst := none, op := Op.store 43 (Operand.tmp 3) (Operand.tmp 29), type := 0, pos := "stm.go:153", after := _, guard := none }) rfl (fun K hK => ?_) AllReadyH.nil
      go_simp
      skip
      refine hK.out _ _ ?_ (fun hHeldbr25b26 => ?_)
      · first | exact HC.out _ (HB1.out.trans ((HX.out.alloc HX.out.size _).mono HB1.out.size)) | exact HC.out _ (HB1.out.trans ((((HX.out.setCell (Nat.le_refl _) _).setCell (Nat.le_refl _) _).setCell (Nat.le_refl _) _).mono HB1.out.size))
      clear hK K hHeldbr24b25
      try simp only [Act.put, List.setIfInBounds_toArray, List.set_cons_zero, List.set_cons_succ]
      refine tkW 26 { dst := some 4, op := Op.assign (Operand.tmp 30), type := 97, pos := "stm.go:153", after := _, guard := none } (v := ?vbr26b27) rfl (Or.inl ⟨by rfl, ?hybr26b27⟩) ?restbr26b27
      case hybr26b27 => (intro w hSw; (try dsimp only at hSw); go_simp <;> with_reducible rfl)
      try simp only [putW, setZ, setS]
      refine wpAnyH_done (by kernel_rfl) ?_ _
      go_wp2_with fail
      go_meet
      first | exact ⟨_, A3, c3, rfl, rfl, HX.out.size, (show Hid _ from HX.out.alloc HX.out.size _), (show Hid _ from Blk.new _ _ _), (show Hid _ from own_below (ownsRow_mono HROW3.out (by have h1 := HZ0.out; simp; omega)) ((Below.refl _ _).alloc (Nat.le_refl _) _))⟩ | exact ⟨_, A3, c3, rfl, rfl, Nat.le_refl _, (show Hid _ from (((HX.out.setCell (Nat.le_refl _) _).setCell (Nat.le_refl _) _).setCell (Nat.le_refl _) _)), (show Hid _ from ((((Blk.new_ w1.drew 43 _ _ rfl).keep HB3.out).set_ 0 _).set_ 1 _).set_ 2 _), (show Hid _ from ownsRow_mono (ownsRow_setCell_below (ownsRow_setCell_below (ownsRow_setCell_below HROW3.out (by simp) _) (by simp) _) (by simp) _) (by have h1 := HZ0.out; simp; omega))⟩
    refine AllReadyH.cons (o := { dst := some 3, op := Op.alloc 43, type := 0, pos := "stm.go:153", after := _, guard := none }) rfl (fun K hK => ?_) ?_
    · go_simp
      skip
      refine hK.out _ _ ?_ (fun hHeldbr24b28 => ?_)
      · first | exact HC.out _ (HB1.out.trans ((HX.out.alloc HX.out.size _).mono HB1.out.size)) | exact HC.out _ (HB1.out.trans (((Below.refl w1.heap.size w1).drew.alloc (Nat.le_refl _) _).mono HB1.out.size))
      clear hK K hHeldbr
      try simp only [Act.put, List.setIfInBounds_toArray, List.set_cons_zero, List.set_cons_succ]
      refine wpAnyH_ready (rs := [20]) (by kernel_rfl) (by simp) ?_
      refine AllReadyH.cons (o := { dst := some 28, op := Op.call { callee := Callee.value (Operand.func 57), args := #[Operand.tmp 12, Operand.tmp 23, Operand.tmp 27], argTypes := #[43, 3, 3] }, type := 98, pos := "stm.go:153", after := _, guard := none }) rfl (fun K hK => ?_) AllReadyH.nil
      go_simp
      first | refine (HTK.out _ (HB1.out.trans ((Below.refl _ _).drew.mono HB1.out.size))).mono ?_ | refine (HTK.out _ (HB1.out.trans (((Below.refl w1.heap.size w1).drew.alloc (Nat.le_refl _) _).mono HB1.out.size))).mono ?_
      rintro e w3 ⟨v3, rfl, ⟨sv3, rfl, hrow3⟩, hb3⟩
      dsimp only at hrow3 ⊢
      obtain ⟨A3, c3, rfl, _, _⟩ := (Sl.of_own hrow3).form
      rw [HLL.out] at hrow3 ⊢
      have hX : Below w1.heap.size w1 w3 := Below.trans (by first | exact (Below.refl _ _).drew | exact (Below.refl w1.heap.size w1).drew.alloc (Nat.le_refl _) _) (hb3.mono (by first | exact Nat.le_refl _ | (simp; done) | (simp; omega)))
      have HX := Lib.hid hX
      have HROW3 := Lib.hid hrow3
      have HB3 := Lib.hid hb3
      obtain ⟨hc3, hf3⟩ := bcell hb3
      have hz3 := hb3.size
      simp at hz3
      clear hX hrow3 hb3
      try go_wp2_with fail
      refine hK.out _ _ ?_ (fun hHeldbr20b29 => ?_)
      · exact HC.out _ (HB1.out.trans (HX.out.mono HB1.out.size))
      clear hK K hHeldbr24b28
      try simp only [Act.put, List.setIfInBounds_toArray, List.set_cons_zero, List.set_cons_succ]
      refine tkW 21 { dst := some 7, op := Op.move (Operand.tmp 28), type := 98, pos := "stm.go:153", after := _, guard := none } (v := ?vbr21b30) rfl (Or.inl ⟨by rfl, ?hybr21b30⟩) ?restbr21b30
      case hybr21b30 => (intro w hSw; (try dsimp only at hSw); go_simp <;> with_reducible rfl)
      try simp only [putW, setZ, setS]
      refine tkW 22 { dst := some 29, op := Op.extract (Operand.tmp 7) 0, type := 43, pos := "stm.go:153", after := _, guard := none } (v := ?vbr22b31) rfl (Or.inl ⟨by rfl, ?hybr22b31⟩) ?restbr22b31
      case hybr22b31 => (intro w hSw; (try dsimp only at hSw); go_simp <;> with_reducible rfl)
      try simp only [putW, setZ, setS]
      refine tkW 23 { dst := some 30, op := Op.extract (Operand.tmp 7) 1, type := 97, pos := "stm.go:153", after := _, guard := none } (v := ?vbr23b32) rfl (Or.inl ⟨by rfl, ?hybr23b32⟩) ?restbr23b32
      case hybr23b32 => (intro w hSw; (try dsimp only at hSw); go_simp <;> with_reducible rfl)
      try simp only [putW, setZ, setS]
      refine wpAnyH_ready (rs := [25]) (by kernel_rfl) (by simp) ?_
      refine AllReadyH.cons (o := { dst := none, op := Op.store 43 (Operand.tmp 3) (Operand.tmp 29), type := 0, pos := "stm.go:153", after := _, guard := none }) rfl (fun K hK => ?_) AllReadyH.nil
      go_simp
      skip
      refine hK.out _ _ ?_ (fun hHeldbr25b33 => ?_)
      · first | exact HC.out _ (HB1.out.trans ((HX.out.alloc HX.out.size _).mono HB1.out.size)) | exact HC.out _ (HB1.out.trans ((((HX.out.setCell (Nat.le_refl _) _).setCell (Nat.le_refl _) _).setCell (Nat.le_refl _) _).mono HB1.out.size))
      clear hK K hHeldbr20b29
      try simp only [Act.put, List.setIfInBounds_toArray, List.set_cons_zero, List.set_cons_succ]
      refine tkW 26 { dst := some 4, op := Op.assign (Operand.tmp 30), type := 97, pos := "stm.go:153", after := _, guard := none } (v := ?vbr26b34) rfl (Or.inl ⟨by rfl, ?hybr26b34⟩) ?restbr26b34
      case hybr26b34 => (intro w hSw; (try dsimp only at hSw); go_simp <;> with_reducible rfl)
      try simp only [putW, setZ, setS]
      refine wpAnyH_done (by kernel_rfl) ?_ _
      go_wp2_with fail
      go_meet
      first | exact ⟨_, A3, c3, rfl, rfl, HX.out.size, (show Hid _ from HX.out.alloc HX.out.size _), (show Hid _ from Blk.new _ _ _), (show Hid _ from own_below (ownsRow_mono HROW3.out (by have h1 := HZ0.out; simp; omega)) ((Below.refl _ _).alloc (Nat.le_refl _) _))⟩ | exact ⟨_, A3, c3, rfl, rfl, Nat.le_refl _, (show Hid _ from (((HX.out.setCell (Nat.le_refl _) _).setCell (Nat.le_refl _) _).setCell (Nat.le_refl _) _)), (show Hid _ from ((((Blk.new_ w1.drew 43 _ _ rfl).keep HB3.out).set_ 0 _).set_ 1 _).set_ 2 _), (show Hid _ from ownsRow_mono (ownsRow_setCell_below (ownsRow_setCell_below (ownsRow_setCell_below HROW3.out (by simp) _) (by simp) _) (by simp) _) (by have h1 := HZ0.out; simp; omega))⟩
    exact AllReadyH.nil
  case rest =>
    obtain ⟨B, A3, c3, rfl, rfl, hB, HX, HBX, HROW⟩ := hcut
    have HXX := Lib.hid (HB1.out.trans (HX.out.mono HB1.out.size))
    have H2 := Lib.hid (HH.out.keep HXX.out)
    by_cases her : er = 0
    · have HS0 := Lib.hid (HS.out.trans (if_pos her))
      subst her
      have hbx := HBX.out
      have b0 : wc.cell? ⟨B, 0, none⟩ = some (.int .i64 m.now) := by rw [hbx.cell]; rfl
      have b1 : wc.cell? ⟨B, 1, none⟩ = some (.int .i64 m.mx) := by rw [hbx.cell]; rfl
      have b2 : wc.cell? ⟨B, 2, none⟩ = some (.slice A3 m.L.length c3) := by rw [hbx.cell]; rfl
      have q1 : wc.cell? ⟨r, 1, none⟩ = some (.int .i64 m.now) := H2.out.rcells 1
      have q2 : wc.cell? ⟨r, 2, none⟩ = some (.int .i64 m.mx) := H2.out.rcells 2
      have q3 : wc.cell? ⟨r, 3, none⟩ = some (.slice a.lA m.L.length a.lc) := H2.out.rcells 3
      have qf1 := H2.out.run.free 1
      have qf2 := H2.out.run.free 2
      have qf3 := H2.out.run.free 3
      have hR3 := H2.out.setC (now := m.now) (mx := m.mx) (L := L') (A := A3) (c := c3) (by rw [HLL.out]; exact HROW.out)
      rw [HLL.out] at hR3
      have d9 : wc.cell? ⟨a.gT, k * 11 + 9, none⟩ = some (.int .i64 (j : Int)) := by have e := H2.out.tcells HK.out (j := 9) rfl; rw [HI.out] at e; exact e
      have d8 : wc.cell? ⟨a.gT, k * 11 + 8, none⟩ = some (.slice (some ⟨b, 0, none⟩) nW t.wc) := by have e := H2.out.tcells HK.out (j := 8) rfl; rw [HBA.out, ← HNW.out] at e; exact e
      have d0 := H2.out.tcells HK.out (j := 0) rfl
      have f9 := H2.out.tfree (k * 11 + 9)
      have f0 := H2.out.tfree (k * 11)
      simp only [Nat.add_zero] at d0
      have hne' : ¬ r = a.gT := fun e => hne e.symm
      have hlt := HH.out.tlt HK.out
      have hR4 := (hR3.tc0 (t := t) HK.out).tc hlt { t with i := t.i + 1 } (j := 9) (u := .int .i64 ((j : Int) + 1)) (by omega) (by simp [encTx, HI.out]) ⟨rfl, rfl, rfl, rfl, rfl, rfl⟩
      have HR4 := Lib.hid hR4
      clear hbx hR3 hR4
      go_upto_region 6 with fail
      by_cases hl : j + 1 = nW
      · have hlb : ((j : Int) + 1 == (nW : Int)) = true := by simp; omega
        have hlz : (nW : Int) = (j : Int) + 1 := by omega
        refine wp_region_held_drew (S := fun W => W.cell? ⟨a.gT, k * 11 + 8, none⟩ = some (.slice (some ⟨b, 0, none⟩) nW t.wc) ∧ W.cell? ⟨a.gT, k * 11 + 9, none⟩ = some (.int .i64 ((j : Int) + 1))) (by kernel_rfl) ?_ (fun hHeldcr => ?_)
        · constructor <;> go_simp
        refine tkW 0 { dst := some 47, op := Op.move (Operand.tmp 2), type := 84, pos := "stm.go:159", after := _, guard := none } (v := ?vcr0) rfl (Or.inl ⟨by rfl, ?hycr0⟩) ?restcr0
        case hycr0 => (intro w hSw; (try dsimp only at hSw); go_simp <;> with_reducible rfl)
        try simp only [putW, setZ, setS]
        refine tkW 1 { dst := some 48, op := Op.nilCheck (Operand.tmp 47), type := 0, pos := "stm.go:159", after := _, guard := none } (v := ?vcr1) rfl (Or.inl ⟨by rfl, ?hycr1⟩) ?restcr1
        case hycr1 => (intro w hSw; (try dsimp only at hSw); go_simp <;> with_reducible rfl)
        try simp only [putW, setZ, setS]
        refine tkW 2 { dst := some 49, op := Op.fieldAddr 52 (Operand.tmp 48) 9, type := 0, pos := "stm.go:159", after := _, guard := none } (v := ?vcr2) rfl (Or.inl ⟨by rfl, ?hycr2⟩) ?restcr2
        case hycr2 => (intro w hSw; (try dsimp only at hSw); go_simp <;> with_reducible rfl)
        try simp only [putW, setZ, setS]
        refine tkW 3 { dst := some 50, op := Op.load 3 (Operand.tmp 49), type := 3, pos := "stm.go:159", after := _, guard := none } (v := ?vcr3) rfl (Or.inl ⟨by rfl, ?hycr3⟩) ?restcr3
        case hycr3 => (intro w hSw; (try dsimp only at hSw); go_simp <;> with_reducible rfl)
        try simp only [putW, setZ, setS]
        refine tkW 4 { dst := some 51, op := Op.move (Operand.tmp 2), type := 84, pos := "stm.go:159", after := _, guard := none } (v := ?vcr4) rfl (Or.inl ⟨by rfl, ?hycr4⟩) ?restcr4
        case hycr4 => (intro w hSw; (try dsimp only at hSw); go_simp <;> with_reducible rfl)
        try simp only [putW, setZ, setS]
        refine tkW 5 { dst := some 52, op := Op.nilCheck (Operand.tmp 51), type := 0, pos := "stm.go:159", after := _, guard := none } (v := ?vcr5) rfl (Or.inl ⟨by rfl, ?hycr5⟩) ?restcr5
        case hycr5 => (intro w hSw; (try dsimp only at hSw); go_simp <;> with_reducible rfl)
        try simp only [putW, setZ, setS]
        refine tkW 6 { dst := some 53, op := Op.fieldAddr 52 (Operand.tmp 52) 8, type := 0, pos := "stm.go:159", after := _, guard := none } (v := ?vcr6) rfl (Or.inl ⟨by rfl, ?hycr6⟩) ?restcr6
        case hycr6 => (intro w hSw; (try dsimp only at hSw); go_simp <;> with_reducible rfl)
        try simp only [putW, setZ, setS]
        refine tkW 7 { dst := some 54, op := Op.load 25 (Operand.tmp 53), type := 25, pos := "stm.go:159", after := _, guard := none } (v := ?vcr7) rfl (Or.inl ⟨by rfl, ?hycr7⟩) ?restcr7
        case hycr7 => (intro w hSw; (try dsimp only at hSw); go_simp <;> with_reducible rfl)
        try simp only [putW, setZ, setS]
        refine tkW 8 { dst := some 55, op := Op.call { callee := Callee.builtin Builtin.len, args := #[Operand.tmp 54], argTypes := #[25] }, type := 3, pos := "stm.go:159", after := _, guard := none } (v := ?vcr8) rfl (Or.inl ⟨by rfl, ?hycr8⟩) ?restcr8
        case hycr8 => (intro w hSw; (try dsimp only at hSw); go_simp <;> with_reducible rfl)
        try simp only [putW, setZ, setS]
        refine tkW 9 { dst := some 56, op := Op.binOp BinOp.eql 3 (Operand.tmp 50) (Operand.tmp 55) 3, type := 4, pos := "stm.go:159", after := _, guard := none } (v := .bool true) rfl (Or.inl ⟨by rfl, ?hycr9⟩) ?restcr9
        case hycr9 => (intro w hSw; (try dsimp only at hSw); go_simp <;> first | done | with_reducible rfl | omega | (simp; done) | (simp; omega) | (simp [*]; done) | (simp [*]; omega) | exact decide_eq_false (by omega) | exact decide_eq_true (by omega))
        try simp only [putW, setZ, setS]
        refine wpAnyH_done (by kernel_rfl) ?_ _
        go_wp2
        go_end0
        have h5 := RunW.tc (m := { m with L := L' }) (t := { t with i := t.i + 1 }) (HR4.out.keep (Below.refl _ _).drew) hlt { t with i := t.i + 1, st := 3 } (j := 0) (u := .int .i64 3) (by omega) rfl ⟨rfl, rfl, rfl, rfl, rfl, rfl⟩
        refine ⟨rfl, _, _, _, h5, ?_⟩
        rw [HS0.out, if_pos (by rw [HI.out, ← HNW.out]; exact hlz.symm)]
      · have hlb : ((j : Int) + 1 == (nW : Int)) = false := by simp; omega
        have hlz : ¬ (j : Int) + 1 = (nW : Int) := by omega
        refine wp_region_held_drew (S := fun W => W.cell? ⟨a.gT, k * 11 + 8, none⟩ = some (.slice (some ⟨b, 0, none⟩) nW t.wc) ∧ W.cell? ⟨a.gT, k * 11 + 9, none⟩ = some (.int .i64 ((j : Int) + 1))) (by kernel_rfl) ?_ (fun hHelddr => ?_)
        · constructor <;> go_simp
        refine tkW 0 { dst := some 47, op := Op.move (Operand.tmp 2), type := 84, pos := "stm.go:159", after := _, guard := none } (v := ?vdr0) rfl (Or.inl ⟨by rfl, ?hydr0⟩) ?restdr0
        case hydr0 => (intro w hSw; (try dsimp only at hSw); go_simp <;> with_reducible rfl)
        try simp only [putW, setZ, setS]
        refine tkW 1 { dst := some 48, op := Op.nilCheck (Operand.tmp 47), type := 0, pos := "stm.go:159", after := _, guard := none } (v := ?vdr1) rfl (Or.inl ⟨by rfl, ?hydr1⟩) ?restdr1
        case hydr1 => (intro w hSw; (try dsimp only at hSw); go_simp <;> with_reducible rfl)
        try simp only [putW, setZ, setS]
        refine tkW 2 { dst := some 49, op := Op.fieldAddr 52 (Operand.tmp 48) 9, type := 0, pos := "stm.go:159", after := _, guard := none } (v := ?vdr2) rfl (Or.inl ⟨by rfl, ?hydr2⟩) ?restdr2
        case hydr2 => (intro w hSw; (try dsimp only at hSw); go_simp <;> with_reducible rfl)
        try simp only [putW, setZ, setS]
        refine tkW 3 { dst := some 50, op := Op.load 3 (Operand.tmp 49), type := 3, pos := "stm.go:159", after := _, guard := none } (v := ?vdr3) rfl (Or.inl ⟨by rfl, ?hydr3⟩) ?restdr3
        case hydr3 => (intro w hSw; (try dsimp only at hSw); go_simp <;> with_reducible rfl)
        try simp only [putW, setZ, setS]
        refine tkW 4 { dst := some 51, op := Op.move (Operand.tmp 2), type := 84, pos := "stm.go:159", after := _, guard := none } (v := ?vdr4) rfl (Or.inl ⟨by rfl, ?hydr4⟩) ?restdr4
        case hydr4 => (intro w hSw; (try dsimp only at hSw); go_simp <;> with_reducible rfl)
        try simp only [putW, setZ, setS]
        refine tkW 5 { dst := some 52, op := Op.nilCheck (Operand.tmp 51), type := 0, pos := "stm.go:159", after := _, guard := none } (v := ?vdr5) rfl (Or.inl ⟨by rfl, ?hydr5⟩) ?restdr5
        case hydr5 => (intro w hSw; (try dsimp only at hSw); go_simp <;> with_reducible rfl)
        try simp only [putW, setZ, setS]
        refine tkW 6 { dst := some 53, op := Op.fieldAddr 52 (Operand.tmp 52) 8, type := 0, pos := "stm.go:159", after := _, guard := none } (v := ?vdr6) rfl (Or.inl ⟨by rfl, ?hydr6⟩) ?restdr6
        case hydr6 => (intro w hSw; (try dsimp only at hSw); go_simp <;> with_reducible rfl)
        try simp only [putW, setZ, setS]
        refine tkW 7 { dst := some 54, op := Op.load 25 (Operand.tmp 53), type := 25, pos := "stm.go:159", after := _, guard := none } (v := ?vdr7) rfl (Or.inl ⟨by rfl, ?hydr7⟩) ?restdr7
        case hydr7 => (intro w hSw; (try dsimp only at hSw); go_simp <;> with_reducible rfl)
        try simp only [putW, setZ, setS]
        refine tkW 8 { dst := some 55, op := Op.call { callee := Callee.builtin Builtin.len, args := #[Operand.tmp 54], argTypes := #[25] }, type := 3, pos := "stm.go:159", after := _, guard := none } (v := ?vdr8) rfl (Or.inl ⟨by rfl, ?hydr8⟩) ?restdr8
        case hydr8 => (intro w hSw; (try dsimp only at hSw); go_simp <;> with_reducible rfl)
        try simp only [putW, setZ, setS]
        refine tkW 9 { dst := some 56, op := Op.binOp BinOp.eql 3 (Operand.tmp 50) (Operand.tmp 55) 3, type := 4, pos := "stm.go:159", after := _, guard := none } (v := .bool false) rfl (Or.inl ⟨by rfl, ?hydr9⟩) ?restdr9
        case hydr9 => (intro w hSw; (try dsimp only at hSw); go_simp <;> first | done | with_reducible rfl | omega | (simp; done) | (simp; omega) | (simp [*]; done) | (simp [*]; omega) | exact decide_eq_false (by omega) | exact decide_eq_true (by omega))
        try simp only [putW, setZ, setS]
        refine wpAnyH_done (by kernel_rfl) ?_ _
        go_wp2
        go_end0
        refine ⟨rfl, _, _, _, HR4.out.keep (Below.refl _ _).drew, ?_⟩
        rw [HS0.out, if_neg (by rw [HI.out, ← HNW.out]; exact hlz)]
    · have herb : (er != 0) = true := by simpa using her
      have HE := Lib.hid (show holdM m k t = quitM m k t 1 from by rw [HS.out, if_neg her])
      clear her
      go_wp2_with fail
      refine (HQT.out _ HXX.out).mono ?_
      rintro e w3 ⟨rfl, hP⟩
      have HP := Lib.hid hP
      clear hP
      go_wp2
      refine bodyPost_ret (results_none rfl _ _ _) rfl ?_
      exact ⟨rfl, by rw [HE.out]; exact HP.out⟩
end
end Go.Proofs.Ytmcbnpeihedcaaa
