/- check: a word that was read is checked. -/
import Derived.Test.YtmcbnpeihedcaaaStHold2
namespace Go.Proofs.Ytmcbnpeihedcaaa
set_option linter.unusedSimpArgs false
open Go Go.RowKit
set_option linter.unusedVariables false
set_option maxRecDepth 100000

section
variable {w0 w w' : World} {r : Nat} {φ : Nat → Nat} {a : Ad} {m : Mm} {pw pm : Int} {pv : Value}

set_option maxHeartbeats 4000000 in
theorem check_end {k : Nat} {t : Tx} (h : RunW w0 w r φ a m pw pm pv (k : Int)) (hk : m.T[k]? = some t) (hH : m.H.length ≤ 1000) (hR : t.R.length ≤ 1000) (hW : t.W.length ≤ 1000) (hi : t.i = (t.R.length : Int)) :
    Calls Try.prog 46 #[.pointer (some ⟨r, 0, none⟩)] w (DonePost w0 r a (checkM m k t) k pw pm pv) := by
  have hspec : checkM m k t = { tellM m k t 0 with T := m.T.set k { t with st := 5, i := 0 } } := by
    unfold checkM
    rw [hi, Int.toNat_natCast, List.getElem?_eq_none (Nat.le_refl _)]
  have HME := Lib.hid (me_any h hk)
  have HH := Lib.hid h
  have HK := Lib.hid hk
  have HT := Lib.hid (fun W (hb : Below w.heap.size w W) => tell_any (h.keep hb) hk 0 hH hR hW)
  have HC := Lib.hid (fun W (hb : Below w.heap.size w W) => And.intro ((h.keep hb).tcells hk (j := 7) rfl) ((h.keep hb).tcells hk (j := 9) rfl))
  rw [hi] at HC
  obtain ⟨n, hn⟩ : ∃ n, n = t.R.length := ⟨_, rfl⟩
  rw [← hn] at HC
  have HS := Lib.hid hspec
  clear h hk hi hspec hn
  go_enter Try.func46, Try.ntmps46
  go_wp2_with fail
  refine HME.out.mono ?_
  rintro e w1 ⟨rfl, hb1⟩
  have HB1 := Lib.hid hb1
  clear hb1 HME
  go_wp2_with fail
  refine wp_region_held_drew (S := fun W => W.cell? ⟨a.gT, k * 11 + 7, none⟩ = some (.slice t.rA n t.rc) ∧ W.cell? ⟨a.gT, k * 11 + 9, none⟩ = some (.int .i64 (n : Int))) (by kernel_rfl) ?_ (fun hHeldbr => ?_)
  · exact HC.out _ (HB1.out.trans ((Below.refl _ _).drew.mono HB1.out.size))
  refine tkW 0 { dst := some 8, op := Op.move (Operand.tmp 2), type := 84, pos := "stm.go:180", after := _, guard := none } (v := ?vbr0) rfl (Or.inl ⟨by rfl, ?hybr0⟩) ?restbr0
  case hybr0 => (intro w hSw; (try dsimp only at hSw); go_simp <;> with_reducible rfl)
  try simp only [putW, setZ, setS]
  refine tkW 1 { dst := some 9, op := Op.nilCheck (Operand.tmp 8), type := 0, pos := "stm.go:180", after := _, guard := none } (v := ?vbr1) rfl (Or.inl ⟨by rfl, ?hybr1⟩) ?restbr1
  case hybr1 => (intro w hSw; (try dsimp only at hSw); go_simp <;> with_reducible rfl)
  try simp only [putW, setZ, setS]
  refine tkW 2 { dst := some 10, op := Op.fieldAddr 52 (Operand.tmp 9) 9, type := 0, pos := "stm.go:180", after := _, guard := none } (v := ?vbr2) rfl (Or.inl ⟨by rfl, ?hybr2⟩) ?restbr2
  case hybr2 => (intro w hSw; (try dsimp only at hSw); go_simp <;> with_reducible rfl)
  try simp only [putW, setZ, setS]
  refine tkW 3 { dst := some 11, op := Op.load 3 (Operand.tmp 10), type := 3, pos := "stm.go:180", after := _, guard := none } (v := ?vbr3) rfl (Or.inl ⟨by rfl, ?hybr3⟩) ?restbr3
  case hybr3 => (intro w hSw; (try dsimp only at hSw); go_simp <;> with_reducible rfl)
  try simp only [putW, setZ, setS]
  refine tkW 4 { dst := some 12, op := Op.move (Operand.tmp 2), type := 84, pos := "stm.go:180", after := _, guard := none } (v := ?vbr4) rfl (Or.inl ⟨by rfl, ?hybr4⟩) ?restbr4
  case hybr4 => (intro w hSw; (try dsimp only at hSw); go_simp <;> with_reducible rfl)
  try simp only [putW, setZ, setS]
  refine tkW 5 { dst := some 13, op := Op.nilCheck (Operand.tmp 12), type := 0, pos := "stm.go:180", after := _, guard := none } (v := ?vbr5) rfl (Or.inl ⟨by rfl, ?hybr5⟩) ?restbr5
  case hybr5 => (intro w hSw; (try dsimp only at hSw); go_simp <;> with_reducible rfl)
  try simp only [putW, setZ, setS]
  refine tkW 6 { dst := some 14, op := Op.fieldAddr 52 (Operand.tmp 13) 7, type := 0, pos := "stm.go:180", after := _, guard := none } (v := ?vbr6) rfl (Or.inl ⟨by rfl, ?hybr6⟩) ?restbr6
  case hybr6 => (intro w hSw; (try dsimp only at hSw); go_simp <;> with_reducible rfl)
  try simp only [putW, setZ, setS]
  refine tkW 7 { dst := some 15, op := Op.load 25 (Operand.tmp 14), type := 25, pos := "stm.go:180", after := _, guard := none } (v := ?vbr7) rfl (Or.inl ⟨by rfl, ?hybr7⟩) ?restbr7
  case hybr7 => (intro w hSw; (try dsimp only at hSw); go_simp <;> with_reducible rfl)
  try simp only [putW, setZ, setS]
  refine tkW 8 { dst := some 16, op := Op.call { callee := Callee.builtin Builtin.len, args := #[Operand.tmp 15], argTypes := #[25] }, type := 3, pos := "stm.go:180", after := _, guard := none } (v := ?vbr8) rfl (Or.inl ⟨by rfl, ?hybr8⟩) ?restbr8
  case hybr8 => (intro w hSw; (try dsimp only at hSw); go_simp <;> with_reducible rfl)
  try simp only [putW, setZ, setS]
  refine tkW 9 { dst := some 17, op := Op.binOp BinOp.eql 3 (Operand.tmp 11) (Operand.tmp 16) 3, type := 4, pos := "stm.go:180", after := _, guard := none } (v := .bool true) rfl (Or.inl ⟨by rfl, ?hybr9⟩) ?restbr9
  case hybr9 => (intro w hSw; (try dsimp only at hSw); go_simp <;> first | done | with_reducible rfl | omega | (simp; done) | (simp; omega) | (simp [*]; done) | (simp [*]; omega) | exact decide_eq_false (by omega) | exact decide_eq_true (by omega))
  try simp only [putW, setZ, setS]
  refine tkW 10 { dst := some 7, op := Op.assign (Operand.tmp 17), type := 4, pos := "stm.go:180", after := _, guard := none } (v := ?vbr10) rfl (Or.inl ⟨by rfl, ?hybr10⟩) ?restbr10
  case hybr10 => (intro w hSw; (try dsimp only at hSw); go_simp <;> with_reducible rfl)
  try simp only [putW, setZ, setS]
  refine wpAnyH_done (by kernel_rfl) ?_ _
  have HB2 := Lib.hid (HB1.out.trans ((Below.refl w1.heap.size w1).drew.mono HB1.out.size))
  go_wp2_with fail
  refine (HT.out _ HB2.out).mono ?_
  rintro e w2 ⟨rfl, φ2, A2, c2, x2, h2, hx2⟩
  have H2 := Lib.hid h2
  have HX2 := Lib.hid hx2
  have d0 := h2.tcells (t := t) HK.out (j := 0) rfl
  have d9 := h2.tcells (t := t) HK.out (j := 9) rfl
  have f0 := h2.tfree (k * 11)
  have f9 := h2.tfree (k * 11 + 9)
  simp only [Nat.add_zero] at d0
  clear h2 hx2
  go_wp2
  go_end0
  have hlt := HH.out.tlt HK.out
  refine ⟨rfl, _, _, _, ((H2.out.tc0 (t := t) HK.out).tc hlt { t with st := 5 } (j := 0) (by omega) rfl ⟨rfl, rfl, rfl, rfl, rfl, rfl⟩).tc hlt { t with st := 5, i := 0 } (j := 9) (by omega) rfl ⟨rfl, rfl, rfl, rfl, rfl, rfl⟩, ?_⟩
  rw [HS.out]
  unfold tellM Mm.er
  simp only [List.map_append, List.map_cons, List.map_nil, HX2.out]
  rfl

set_option maxHeartbeats 4000000 in
theorem check_one {k : Nat} {t : Tx} (h : RunW w0 w r φ a m pw pm pv (k : Int)) (hk : m.T[k]? = some t) (hmay : mayL m.now m.mx m.L = true) (hk4 : k < 4) (hH : m.H.length ≤ 1000) (hR : t.R.length ≤ 1000) (hW : t.W.length ≤ 1000) (htx : 0 ≤ t.tx ∧ t.tx ≤ 1000)
    (j : Nat) (hi : t.i = (j : Int)) (hj : j < t.R.length) :
    Calls Try.prog 46 #[.pointer (some ⟨r, 0, none⟩)] w (DonePost w0 r a (checkM m k t) k pw pm pv) := by
  obtain ⟨x, hx⟩ : ∃ x, t.R[j]? = some x := ⟨_, List.getElem?_eq_getElem hj⟩
  obtain ⟨q, hq⟩ : ∃ q, q = seesL m.now m.mx m.L x.at_ t.rv (k : Int) := ⟨_, rfl⟩
  have hspec : checkM m k t = if q = true then { m with T := m.T.set k { t with i := t.i + 1 } } else quitM m k t 1 := by
    unfold checkM
    rw [hi, Int.toNat_natCast, hx]
    simp only [← hq]
  have HME := Lib.hid (me_any h hk)
  have HH := Lib.hid h
  have HK := Lib.hid hk
  have HQT := Lib.hid (fun W (hb : Below w.heap.size w W) => quit_any (h.keep hb) hk 1 hmay hk4 hH hR hW htx)
  have HSE := Lib.hid (fun W (hb : Below w.heap.size w W) => hq ▸ Sees_any _ m.now m.mx x.at_ t.rv (k : Int) m.L W (h.keep hb).locks)
  obtain ⟨b, hbA, _, hWc, hcM, _, _⟩ := (h.ts k t hk).R.pairs (by omega)
  have HPC := Lib.hid (fun W (hb : Below w.heap.size w W) => (show W.cell? ⟨b, j * 2, none⟩ = some (.int .i64 x.at_) from by
    obtain ⟨b', hbA', _, _, _, _, hp⟩ := ((h.keep hb).ts k t hk).R.pairs (by omega)
    rw [hbA] at hbA'
    injection hbA' with e
    injection e with e
    subst e
    exact (hp j x hx).1))
  obtain ⟨n, hn⟩ : ∃ n, n = t.R.length := ⟨_, rfl⟩
  have hjz : (j : Int) < (n : Int) := by omega
  have hj0 : (0 : Int) ≤ (j : Int) := by omega
  have hjn : ((j : Int) == (n : Int)) = false := by simp; omega
  have hwr : IntKind.i64.wrap ((j : Int) + 1) = (j : Int) + 1 := by rw [IntKind.wrap_i64]; omega
  have HC := Lib.hid (fun W (hb : Below w.heap.size w W) => (show W.cell? ⟨a.gT, k * 11 + 7, none⟩ = some (.slice (some ⟨b, 0, none⟩) n t.rc) ∧ W.cell? ⟨a.gT, k * 11 + 9, none⟩ = some (.int .i64 (j : Int)) ∧ W.cell? ⟨r, 1, none⟩ = some (.int .i64 m.now) ∧ W.cell? ⟨r, 2, none⟩ = some (.int .i64 m.mx) ∧ W.cell? ⟨r, 3, none⟩ = some (.slice a.lA m.L.length a.lc) ∧ W.cell? ⟨r, 10, none⟩ = some (.int .i64 (k : Int)) ∧ W.cell? ⟨a.gT, k * 11 + 4, none⟩ = some (.int .i64 t.rv) ∧ W.cell? ⟨b, j * 2, none⟩ = some (.int .i64 x.at_) from
    ⟨by have e := (h.keep hb).tcells hk (j := 7) rfl; rw [hbA, ← hn] at e; exact e, by have e := (h.keep hb).tcells hk (j := 9) rfl; rw [hi] at e; exact e, (h.keep hb).rcells 1, (h.keep hb).rcells 2, (h.keep hb).rcells 3, (h.keep hb).rcells 10, (h.keep hb).tcells hk (j := 4) rfl, HPC.out W hb⟩))
  have HI := Lib.hid hi
  have HS := Lib.hid hspec
  clear h hk hmay hq hspec hx hi hbA hn HPC
  go_enter Try.func46, Try.ntmps46
  go_wp2_with fail
  refine HME.out.mono ?_
  rintro e w1 ⟨rfl, hb1⟩
  have HB1 := Lib.hid hb1
  clear hb1 HME
  go_wp2_with fail
  refine wp_region_held_drew (S := fun W => W.cell? ⟨a.gT, k * 11 + 7, none⟩ = some (.slice (some ⟨b, 0, none⟩) n t.rc) ∧ W.cell? ⟨a.gT, k * 11 + 9, none⟩ = some (.int .i64 (j : Int))) (by kernel_rfl) ?_ (fun hHeldcr => ?_)
  · have e := HC.out _ (HB1.out.trans ((Below.refl _ _).drew.mono HB1.out.size)); exact ⟨e.1, e.2.1⟩
  refine tkW 0 { dst := some 8, op := Op.move (Operand.tmp 2), type := 84, pos := "stm.go:180", after := _, guard := none } (v := ?vcr0) rfl (Or.inl ⟨by rfl, ?hycr0⟩) ?restcr0
  case hycr0 => (intro w hSw; (try dsimp only at hSw); go_simp <;> with_reducible rfl)
  try simp only [putW, setZ, setS]
  refine tkW 1 { dst := some 9, op := Op.nilCheck (Operand.tmp 8), type := 0, pos := "stm.go:180", after := _, guard := none } (v := ?vcr1) rfl (Or.inl ⟨by rfl, ?hycr1⟩) ?restcr1
  case hycr1 => (intro w hSw; (try dsimp only at hSw); go_simp <;> with_reducible rfl)
  try simp only [putW, setZ, setS]
  refine tkW 2 { dst := some 10, op := Op.fieldAddr 52 (Operand.tmp 9) 9, type := 0, pos := "stm.go:180", after := _, guard := none } (v := ?vcr2) rfl (Or.inl ⟨by rfl, ?hycr2⟩) ?restcr2
  case hycr2 => (intro w hSw; (try dsimp only at hSw); go_simp <;> with_reducible rfl)
  try simp only [putW, setZ, setS]
  refine tkW 3 { dst := some 11, op := Op.load 3 (Operand.tmp 10), type := 3, pos := "stm.go:180", after := _, guard := none } (v := ?vcr3) rfl (Or.inl ⟨by rfl, ?hycr3⟩) ?restcr3
  case hycr3 => (intro w hSw; (try dsimp only at hSw); go_simp <;> with_reducible rfl)
  try simp only [putW, setZ, setS]
  refine tkW 4 { dst := some 12, op := Op.move (Operand.tmp 2), type := 84, pos := "stm.go:180", after := _, guard := none } (v := ?vcr4) rfl (Or.inl ⟨by rfl, ?hycr4⟩) ?restcr4
  case hycr4 => (intro w hSw; (try dsimp only at hSw); go_simp <;> with_reducible rfl)
  try simp only [putW, setZ, setS]
  refine tkW 5 { dst := some 13, op := Op.nilCheck (Operand.tmp 12), type := 0, pos := "stm.go:180", after := _, guard := none } (v := ?vcr5) rfl (Or.inl ⟨by rfl, ?hycr5⟩) ?restcr5
  case hycr5 => (intro w hSw; (try dsimp only at hSw); go_simp <;> with_reducible rfl)
  try simp only [putW, setZ, setS]
  refine tkW 6 { dst := some 14, op := Op.fieldAddr 52 (Operand.tmp 13) 7, type := 0, pos := "stm.go:180", after := _, guard := none } (v := ?vcr6) rfl (Or.inl ⟨by rfl, ?hycr6⟩) ?restcr6
  case hycr6 => (intro w hSw; (try dsimp only at hSw); go_simp <;> with_reducible rfl)
  try simp only [putW, setZ, setS]
  refine tkW 7 { dst := some 15, op := Op.load 25 (Operand.tmp 14), type := 25, pos := "stm.go:180", after := _, guard := none } (v := ?vcr7) rfl (Or.inl ⟨by rfl, ?hycr7⟩) ?restcr7
  case hycr7 => (intro w hSw; (try dsimp only at hSw); go_simp <;> with_reducible rfl)
  try simp only [putW, setZ, setS]
  refine tkW 8 { dst := some 16, op := Op.call { callee := Callee.builtin Builtin.len, args := #[Operand.tmp 15], argTypes := #[25] }, type := 3, pos := "stm.go:180", after := _, guard := none } (v := ?vcr8) rfl (Or.inl ⟨by rfl, ?hycr8⟩) ?restcr8
  case hycr8 => (intro w hSw; (try dsimp only at hSw); go_simp <;> with_reducible rfl)
  try simp only [putW, setZ, setS]
  refine tkW 9 { dst := some 17, op := Op.binOp BinOp.eql 3 (Operand.tmp 11) (Operand.tmp 16) 3, type := 4, pos := "stm.go:180", after := _, guard := none } (v := .bool false) rfl (Or.inl ⟨by rfl, ?hycr9⟩) ?restcr9
  case hycr9 => (intro w hSw; (try dsimp only at hSw); go_simp <;> first | done | with_reducible rfl | omega | (simp; done) | (simp; omega) | (simp [*]; done) | (simp [*]; omega) | exact decide_eq_false (by omega) | exact decide_eq_true (by omega))
  try simp only [putW, setZ, setS]
  refine tkW 10 { dst := some 7, op := Op.assign (Operand.tmp 17), type := 4, pos := "stm.go:180", after := _, guard := none } (v := ?vcr10) rfl (Or.inl ⟨by rfl, ?hycr10⟩) ?restcr10
  case hycr10 => (intro w hSw; (try dsimp only at hSw); go_simp <;> with_reducible rfl)
  try simp only [putW, setZ, setS]
  refine wpAnyH_done (by kernel_rfl) ?_ _
  have HB2 := Lib.hid (HB1.out.trans ((Below.refl w1.heap.size w1).drew.mono HB1.out.size))
  go_wp2_with fail
  refine wp_region_held_drew (S := fun W => W.cell? ⟨a.gT, k * 11 + 7, none⟩ = some (.slice (some ⟨b, 0, none⟩) n t.rc) ∧ W.cell? ⟨a.gT, k * 11 + 9, none⟩ = some (.int .i64 (j : Int)) ∧ W.cell? ⟨r, 1, none⟩ = some (.int .i64 m.now) ∧ W.cell? ⟨r, 2, none⟩ = some (.int .i64 m.mx) ∧ W.cell? ⟨r, 3, none⟩ = some (.slice a.lA m.L.length a.lc) ∧ W.cell? ⟨r, 10, none⟩ = some (.int .i64 (k : Int)) ∧ W.cell? ⟨a.gT, k * 11 + 4, none⟩ = some (.int .i64 t.rv) ∧ W.cell? ⟨b, j * 2, none⟩ = some (.int .i64 x.at_)) (by kernel_rfl) ?_ (fun hHelddr => ?_)
  · exact HC.out _ (HB2.out.trans ((Below.refl _ _).drew.mono HB2.out.size))
  refine tkW 0 { dst := some 27, op := Op.move (Operand.tmp 0), type := 68, pos := "stm.go:183", after := _, guard := none } (v := ?vdr0) rfl (Or.inl ⟨by rfl, ?hydr0⟩) ?restdr0
  case hydr0 => (intro w hSw; (try dsimp only at hSw); go_simp <;> with_reducible rfl)
  try simp only [putW, setZ, setS]
  refine tkW 1 { dst := some 28, op := Op.nilCheck (Operand.tmp 27), type := 0, pos := "stm.go:183", after := _, guard := none } (v := ?vdr1) rfl (Or.inl ⟨by rfl, ?hydr1⟩) ?restdr1
  case hydr1 => (intro w hSw; (try dsimp only at hSw); go_simp <;> with_reducible rfl)
  try simp only [putW, setZ, setS]
  refine tkW 2 { dst := some 29, op := Op.fieldAddr 70 (Operand.tmp 28) 0, type := 0, pos := "stm.go:183", after := _, guard := none } (v := ?vdr2) rfl (Or.inl ⟨by rfl, ?hydr2⟩) ?restdr2
  case hydr2 => (intro w hSw; (try dsimp only at hSw); go_simp <;> with_reducible rfl)
  try simp only [putW, setZ, setS]
  refine tkW 3 { dst := some 30, op := Op.fieldAddr 46 (Operand.tmp 29) 1, type := 0, pos := "stm.go:183", after := _, guard := none } (v := ?vdr3) rfl (Or.inl ⟨by rfl, ?hydr3⟩) ?restdr3
  case hydr3 => (intro w hSw; (try dsimp only at hSw); go_simp <;> with_reducible rfl)
  try simp only [putW, setZ, setS]
  refine tkW 4 { dst := some 31, op := Op.load 43 (Operand.tmp 30), type := 43, pos := "stm.go:183", after := _, guard := none } (v := ?vdr4) rfl (Or.inl ⟨by rfl, ?hydr4⟩) ?restdr4
  case hydr4 => (intro w hSw; (try dsimp only at hSw); go_simp <;> with_reducible rfl)
  try simp only [putW, setZ, setS]
  refine tkW 5 { dst := some 32, op := Op.move (Operand.tmp 2), type := 84, pos := "stm.go:183", after := _, guard := none } (v := ?vdr5) rfl (Or.inl ⟨by rfl, ?hydr5⟩) ?restdr5
  case hydr5 => (intro w hSw; (try dsimp only at hSw); go_simp <;> with_reducible rfl)
  try simp only [putW, setZ, setS]
  refine tkW 6 { dst := some 33, op := Op.nilCheck (Operand.tmp 32), type := 0, pos := "stm.go:183", after := _, guard := none } (v := ?vdr6) rfl (Or.inl ⟨by rfl, ?hydr6⟩) ?restdr6
  case hydr6 => (intro w hSw; (try dsimp only at hSw); go_simp <;> with_reducible rfl)
  try simp only [putW, setZ, setS]
  refine tkW 7 { dst := some 34, op := Op.fieldAddr 52 (Operand.tmp 33) 7, type := 0, pos := "stm.go:183", after := _, guard := none } (v := ?vdr7) rfl (Or.inl ⟨by rfl, ?hydr7⟩) ?restdr7
  case hydr7 => (intro w hSw; (try dsimp only at hSw); go_simp <;> with_reducible rfl)
  try simp only [putW, setZ, setS]
  refine tkW 8 { dst := some 35, op := Op.load 25 (Operand.tmp 34), type := 25, pos := "stm.go:183", after := _, guard := none } (v := ?vdr8) rfl (Or.inl ⟨by rfl, ?hydr8⟩) ?restdr8
  case hydr8 => (intro w hSw; (try dsimp only at hSw); go_simp <;> with_reducible rfl)
  try simp only [putW, setZ, setS]
  refine tkW 9 { dst := some 36, op := Op.move (Operand.tmp 2), type := 84, pos := "stm.go:183", after := _, guard := none } (v := ?vdr9) rfl (Or.inl ⟨by rfl, ?hydr9⟩) ?restdr9
  case hydr9 => (intro w hSw; (try dsimp only at hSw); go_simp <;> with_reducible rfl)
  try simp only [putW, setZ, setS]
  refine tkW 10 { dst := some 37, op := Op.nilCheck (Operand.tmp 36), type := 0, pos := "stm.go:183", after := _, guard := none } (v := ?vdr10) rfl (Or.inl ⟨by rfl, ?hydr10⟩) ?restdr10
  case hydr10 => (intro w hSw; (try dsimp only at hSw); go_simp <;> with_reducible rfl)
  try simp only [putW, setZ, setS]
  refine tkW 11 { dst := some 38, op := Op.fieldAddr 52 (Operand.tmp 37) 9, type := 0, pos := "stm.go:183", after := _, guard := none } (v := ?vdr11) rfl (Or.inl ⟨by rfl, ?hydr11⟩) ?restdr11
  case hydr11 => (intro w hSw; (try dsimp only at hSw); go_simp <;> with_reducible rfl)
  try simp only [putW, setZ, setS]
  refine tkW 12 { dst := some 39, op := Op.load 3 (Operand.tmp 38), type := 3, pos := "stm.go:183", after := _, guard := none } (v := ?vdr12) rfl (Or.inl ⟨by rfl, ?hydr12⟩) ?restdr12
  case hydr12 => (intro w hSw; (try dsimp only at hSw); go_simp <;> with_reducible rfl)
  try simp only [putW, setZ, setS]
  refine tkW 13 { dst := some 40, op := Op.indexAddr 25 (Operand.tmp 35) (Operand.tmp 39), type := 0, pos := "stm.go:183", after := _, guard := none } (v := ?vdr13) rfl (Or.inl ⟨by rfl, ?hydr13⟩) ?restdr13
  case hydr13 => (intro w hSw; (try dsimp only at hSw); go_simp <;> with_reducible rfl)
  try simp only [putW, setZ, setS]
  refine tkW 14 { dst := some 41, op := Op.fieldAddr 34 (Operand.tmp 40) 0, type := 0, pos := "stm.go:183", after := _, guard := none } (v := ?vdr14) rfl (Or.inl ⟨by rfl, ?hydr14⟩) ?restdr14
  case hydr14 => (intro w hSw; (try dsimp only at hSw); go_simp <;> with_reducible rfl)
  try simp only [putW, setZ, setS]
  refine tkW 15 { dst := some 42, op := Op.load 3 (Operand.tmp 41), type := 3, pos := "stm.go:183", after := _, guard := none } (v := ?vdr15) rfl (Or.inl ⟨by rfl, ?hydr15⟩) ?restdr15
  case hydr15 => (intro w hSw; (try dsimp only at hSw); go_simp <;> with_reducible rfl)
  try simp only [putW, setZ, setS]
  refine tkW 16 { dst := some 43, op := Op.move (Operand.tmp 2), type := 84, pos := "stm.go:183", after := _, guard := none } (v := ?vdr16) rfl (Or.inl ⟨by rfl, ?hydr16⟩) ?restdr16
  case hydr16 => (intro w hSw; (try dsimp only at hSw); go_simp <;> with_reducible rfl)
  try simp only [putW, setZ, setS]
  refine tkW 17 { dst := some 44, op := Op.nilCheck (Operand.tmp 43), type := 0, pos := "stm.go:183", after := _, guard := none } (v := ?vdr17) rfl (Or.inl ⟨by rfl, ?hydr17⟩) ?restdr17
  case hydr17 => (intro w hSw; (try dsimp only at hSw); go_simp <;> with_reducible rfl)
  try simp only [putW, setZ, setS]
  refine tkW 18 { dst := some 45, op := Op.fieldAddr 52 (Operand.tmp 44) 4, type := 0, pos := "stm.go:183", after := _, guard := none } (v := ?vdr18) rfl (Or.inl ⟨by rfl, ?hydr18⟩) ?restdr18
  case hydr18 => (intro w hSw; (try dsimp only at hSw); go_simp <;> with_reducible rfl)
  try simp only [putW, setZ, setS]
  refine tkW 19 { dst := some 46, op := Op.load 3 (Operand.tmp 45), type := 3, pos := "stm.go:183", after := _, guard := none } (v := ?vdr19) rfl (Or.inl ⟨by rfl, ?hydr19⟩) ?restdr19
  case hydr19 => (intro w hSw; (try dsimp only at hSw); go_simp <;> with_reducible rfl)
  try simp only [putW, setZ, setS]
  refine tkW 20 { dst := some 47, op := Op.move (Operand.tmp 0), type := 68, pos := "stm.go:183", after := _, guard := none } (v := ?vdr20) rfl (Or.inl ⟨by rfl, ?hydr20⟩) ?restdr20
  case hydr20 => (intro w hSw; (try dsimp only at hSw); go_simp <;> with_reducible rfl)
  try simp only [putW, setZ, setS]
  refine tkW 21 { dst := some 48, op := Op.nilCheck (Operand.tmp 47), type := 0, pos := "stm.go:183", after := _, guard := none } (v := ?vdr21) rfl (Or.inl ⟨by rfl, ?hydr21⟩) ?restdr21
  case hydr21 => (intro w hSw; (try dsimp only at hSw); go_simp <;> with_reducible rfl)
  try simp only [putW, setZ, setS]
  refine tkW 22 { dst := some 49, op := Op.fieldAddr 70 (Operand.tmp 48) 2, type := 0, pos := "stm.go:183", after := _, guard := none } (v := ?vdr22) rfl (Or.inl ⟨by rfl, ?hydr22⟩) ?restdr22
  case hydr22 => (intro w hSw; (try dsimp only at hSw); go_simp <;> with_reducible rfl)
  try simp only [putW, setZ, setS]
  refine tkW 23 { dst := some 50, op := Op.load 3 (Operand.tmp 49), type := 3, pos := "stm.go:183", after := _, guard := none } (v := ?vdr23) rfl (Or.inl ⟨by rfl, ?hydr23⟩) ?restdr23
  case hydr23 => (intro w hSw; (try dsimp only at hSw); go_simp <;> with_reducible rfl)
  try simp only [putW, setZ, setS]
  refine wpAnyH_ready (rs := [24]) (by kernel_rfl) (by simp) ?_
  refine AllReadyH.cons (o := { dst := some 51, op := Op.call { callee := Callee.value (Operand.func 61), args := #[Operand.tmp 31, Operand.tmp 42, Operand.tmp 46, Operand.tmp 50], argTypes := #[43, 3, 3, 3] }, type := 4, pos := "stm.go:183", after := _, guard := none }) rfl (fun K hK => ?_) AllReadyH.nil
  go_simp
  refine (HSE.out _ (HB2.out.trans ((Below.refl _ _).drew.mono HB2.out.size))).mono ?_
  rintro e w3 ⟨rfl, hb3⟩
  have HB3 := Lib.hid ((HB2.out.trans ((Below.refl w1.drew.heap.size w1.drew).drew.mono HB2.out.size)).trans (hb3.mono HB2.out.size))
  clear hb3
  try go_wp2_with fail
  refine hK.out _ _ ?_ (fun hHelddr24 => ?_)
  · exact HC.out _ HB3.out
  clear hK K hHelddr
  try simp only [Act.put, List.setIfInBounds_toArray, List.set_cons_zero, List.set_cons_succ]
  refine tkW 25 { dst := some 26, op := Op.assign (Operand.tmp 51), type := 4, pos := "stm.go:183", after := _, guard := none } (v := ?vdr25) rfl (Or.inl ⟨by rfl, ?hydr25⟩) ?restdr25
  case hydr25 => (intro w hSw; (try dsimp only at hSw); go_simp <;> with_reducible rfl)
  try simp only [putW, setZ, setS]
  refine wpAnyH_done (by kernel_rfl) ?_ _
  cases q with
  | true =>
    have H3 := Lib.hid (HH.out.keep HB3.out)
    have d9 : w3.cell? ⟨a.gT, k * 11 + 9, none⟩ = some (.int .i64 (j : Int)) := (HC.out _ HB3.out).2.1
    have f9 := H3.out.tfree (k * 11 + 9)
    have hlt := HH.out.tlt HK.out
    have h4 := (H3.out.tc0 (t := t) HK.out).tc hlt { t with i := t.i + 1 } (j := 9) (u := .int .i64 ((j : Int) + 1)) (by omega) (by simp [encTx, HI.out]) ⟨rfl, rfl, rfl, rfl, rfl, rfl⟩
    have H4 := Lib.hid h4
    clear h4
    go_wp2
    go_end0
    refine ⟨rfl, _, _, _, H4.out, ?_⟩
    rw [HS.out]
    rfl
  | false =>
    go_wp2_with fail
    refine (HQT.out _ HB3.out).mono ?_
    rintro e w4 ⟨rfl, hP⟩
    have HP := Lib.hid hP
    clear hP
    go_wp2
    go_end0
    exact ⟨rfl, by rw [HS.out]; exact HP.out⟩

theorem check_any {k : Nat} {t : Tx} (h : RunW w0 w r φ a m pw pm pv (k : Int)) (hk : m.T[k]? = some t) (hmay : mayL m.now m.mx m.L = true) (hk4 : k < 4) (hH : m.H.length ≤ 1000) (hR : t.R.length ≤ 1000) (hW : t.W.length ≤ 1000) (htx : 0 ≤ t.tx ∧ t.tx ≤ 1000)
    (j : Nat) (hi : t.i = (j : Int)) (hj : j ≤ t.R.length) :
    Calls Try.prog 46 #[.pointer (some ⟨r, 0, none⟩)] w (DonePost w0 r a (checkM m k t) k pw pm pv) := by
  rcases Nat.lt_or_ge j t.R.length with h1 | h1
  · exact check_one h hk hmay hk4 hH hR hW htx j hi h1
  · exact check_end h hk hH hR hW (by rw [hi]; omega)
end
end Go.Proofs.Ytmcbnpeihedcaaa
