/- over: a try is over. -/
import Derived.Test.YtmcbnpeihedcaaaStLib
namespace Go.Proofs.Ytmcbnpeihedcaaa
set_option linter.unusedSimpArgs false
open Go Go.RowKit
set_option linter.unusedVariables false
set_option maxRecDepth 100000

section
variable {w0 w w' : World} {r : Nat} {φ : Nat → Nat} {a : Ad} {m : Mm} {pw pm : Int} {pv : Value}

set_option maxHeartbeats 4000000 in
theorem over_next {k : Nat} {t : Tx} (h : RunW w0 w r φ a m pw pm pv (k : Int)) (hk : m.T[k]? = some t) (how : Int) (hn : ¬ (how = 1 ∧ t.try_ < 3)) (htx : 0 ≤ t.tx ∧ t.tx ≤ 1000) :
    Calls Try.prog 63 #[.pointer (some ⟨r, 0, none⟩), .int .i64 how] w fun e w' => e = .returned (.tuple #[]) ∧ RunW w0 w' r φ a (overM m k t how) pw pm pv (k : Int) := by
  have HME := Lib.hid (me_any h hk)
  have hlt := h.tlt hk
  have c1 := h.tcells hk (j := 1) rfl
  have c2 := h.tcells hk (j := 2) rfl
  have hT := h.apart.2.2.2.1
  have HH := Lib.hid h
  have HF := Lib.hid (fun W (hb : Below w.heap.size w W) o => (h.keep hb).tfree o)
  have hwr : IntKind.i64.wrap (t.tx + 1) = t.tx + 1 := by rw [IntKind.wrap_i64]; omega
  have HK := Lib.hid hk
  clear h hk
  by_cases h1 : how = 1
  · have h3 : ¬ t.try_ < 3 := fun h => hn ⟨h1, h⟩
    have HO := Lib.hid (show overM m k t how = { m with T := m.T.set k { Tx.zero with tx := t.tx + 1 } } from by unfold overM overT; rw [if_neg hn])
    rw [HO.out]
    subst h1
    clear hn
    go_enter Try.func63, Try.ntmps63
    go_wp2_with fail
    refine HME.out.mono ?_
    rintro e w1 ⟨rfl, hb1⟩
    obtain ⟨hc1, hf1⟩ := bcell hb1
    have hz1 := hb1.size
    have hT1 : a.gT < w1.heap.size := by omega
    have HB1 := Lib.hid hb1
    clear hb1
    go_wp2_with (refine wpList_store_tx (HH.out.keep HB1.out) HK.out { Tx.zero with tx := t.tx + 1 } ⟨rfl, rfl, rfl, rfl, rfl, rfl⟩ rfl _ _ rfl rfl rfl ?_; intro w2 hR2)
    go_end0
    exact ⟨rfl, hR2⟩
  · have h1b : (how == 1) = false := by simpa using h1
    have HO := Lib.hid (show overM m k t how = { m with T := m.T.set k { Tx.zero with tx := t.tx + 1 } } from by unfold overM overT; rw [if_neg hn])
    rw [HO.out]
    clear hn h1
    go_enter Try.func63, Try.ntmps63
    go_wp2_with fail
    refine HME.out.mono ?_
    rintro e w1 ⟨rfl, hb1⟩
    obtain ⟨hc1, hf1⟩ := bcell hb1
    have hz1 := hb1.size
    have hT1 : a.gT < w1.heap.size := by omega
    have HB1 := Lib.hid hb1
    clear hb1
    go_wp2_with (refine wpList_store_tx (HH.out.keep HB1.out) HK.out { Tx.zero with tx := t.tx + 1 } ⟨rfl, rfl, rfl, rfl, rfl, rfl⟩ rfl _ _ rfl rfl rfl ?_; intro w2 hR2)
    go_end0
    exact ⟨rfl, hR2⟩

set_option maxHeartbeats 4000000 in
theorem over_again {k : Nat} {t : Tx} (h : RunW w0 w r φ a m pw pm pv (k : Int)) (hk : m.T[k]? = some t) (hn : t.try_ < 3) :
    Calls Try.prog 63 #[.pointer (some ⟨r, 0, none⟩), .int .i64 1] w fun e w' => e = .returned (.tuple #[]) ∧ RunW w0 w' r φ a (overM m k t 1) pw pm pv (k : Int) := by
  have HME := Lib.hid (me_any h hk)
  have hlt := h.tlt hk
  have c1 := h.tcells hk (j := 1) rfl
  have c2 := h.tcells hk (j := 2) rfl
  have hT := h.apart.2.2.2.1
  have HH := Lib.hid h
  have HK := Lib.hid hk
  have HO := Lib.hid (show overM m k t 1 = { m with T := m.T.set k { Tx.zero with tx := t.tx, try_ := t.try_ } } from by unfold overM overT; rw [if_pos ⟨rfl, hn⟩])
  rw [HO.out]
  clear h hk
  go_enter Try.func63, Try.ntmps63
  go_wp2_with fail
  refine HME.out.mono ?_
  rintro e w1 ⟨rfl, hb1⟩
  obtain ⟨hc1, hf1⟩ := bcell hb1
  have hz1 := hb1.size
  have hT1 : a.gT < w1.heap.size := by omega
  have HB1 := Lib.hid hb1
  have d1 := (hc1 a.gT (k * 11 + 1) hT).trans c1
  have d2 := (hc1 a.gT (k * 11 + 2) hT).trans c2
  clear hb1
  go_wp2_with fail
  refine wp_region_held_drew (S := fun w' => w'.cell? ⟨a.gT, k * 11 + 1, none⟩ = some (.int .i64 t.tx) ∧ w'.cell? ⟨a.gT, k * 11 + 2, none⟩ = some (.int .i64 t.try_)) (by kernel_rfl) ?_ (fun hHeldbr => ?_)
  · exact ⟨d1, d2⟩
  refine tkW 0 { dst := some 16, op := Op.move (Operand.tmp 4), type := 84, pos := "stm.go:66", after := _, guard := none } (v := ?vbr0) rfl (Or.inl ⟨by rfl, ?hybr0⟩) ?restbr0
  case hybr0 => (intro w hSw; (try dsimp only at hSw); go_simp <;> with_reducible rfl)
  try simp only [putW, setZ, setS]
  refine tkW 1 { dst := some 17, op := Op.move (Operand.tmp 4), type := 84, pos := "stm.go:66", after := _, guard := none } (v := ?vbr1) rfl (Or.inl ⟨by rfl, ?hybr1⟩) ?restbr1
  case hybr1 => (intro w hSw; (try dsimp only at hSw); go_simp <;> with_reducible rfl)
  try simp only [putW, setZ, setS]
  refine tkW 2 { dst := some 18, op := Op.nilCheck (Operand.tmp 17), type := 0, pos := "stm.go:66", after := _, guard := none } (v := ?vbr2) rfl (Or.inl ⟨by rfl, ?hybr2⟩) ?restbr2
  case hybr2 => (intro w hSw; (try dsimp only at hSw); go_simp <;> with_reducible rfl)
  try simp only [putW, setZ, setS]
  refine tkW 3 { dst := some 19, op := Op.fieldAddr 52 (Operand.tmp 18) 1, type := 0, pos := "stm.go:66", after := _, guard := none } (v := ?vbr3) rfl (Or.inl ⟨by rfl, ?hybr3⟩) ?restbr3
  case hybr3 => (intro w hSw; (try dsimp only at hSw); go_simp <;> with_reducible rfl)
  try simp only [putW, setZ, setS]
  refine tkW 4 { dst := some 20, op := Op.load 3 (Operand.tmp 19), type := 3, pos := "stm.go:66", after := _, guard := none } (v := ?vbr4) rfl (Or.inl ⟨by rfl, ?hybr4⟩) ?restbr4
  case hybr4 => (intro w hSw; (try dsimp only at hSw); go_simp <;> with_reducible rfl)
  try simp only [putW, setZ, setS]
  refine tkW 5 { dst := some 21, op := Op.move (Operand.tmp 4), type := 84, pos := "stm.go:66", after := _, guard := none } (v := ?vbr5) rfl (Or.inl ⟨by rfl, ?hybr5⟩) ?restbr5
  case hybr5 => (intro w hSw; (try dsimp only at hSw); go_simp <;> with_reducible rfl)
  try simp only [putW, setZ, setS]
  refine tkW 6 { dst := some 22, op := Op.nilCheck (Operand.tmp 21), type := 0, pos := "stm.go:66", after := _, guard := none } (v := ?vbr6) rfl (Or.inl ⟨by rfl, ?hybr6⟩) ?restbr6
  case hybr6 => (intro w hSw; (try dsimp only at hSw); go_simp <;> with_reducible rfl)
  try simp only [putW, setZ, setS]
  refine tkW 7 { dst := some 23, op := Op.fieldAddr 52 (Operand.tmp 22) 2, type := 0, pos := "stm.go:66", after := _, guard := none } (v := ?vbr7) rfl (Or.inl ⟨by rfl, ?hybr7⟩) ?restbr7
  case hybr7 => (intro w hSw; (try dsimp only at hSw); go_simp <;> with_reducible rfl)
  try simp only [putW, setZ, setS]
  refine tkW 8 { dst := some 24, op := Op.load 3 (Operand.tmp 23), type := 3, pos := "stm.go:66", after := _, guard := none } (v := ?vbr8) rfl (Or.inl ⟨by rfl, ?hybr8⟩) ?restbr8
  case hybr8 => (intro w hSw; (try dsimp only at hSw); go_simp <;> with_reducible rfl)
  try simp only [putW, setZ, setS]
  refine tkW 9 { dst := some 25, op := Op.build 52 #[(1, Operand.tmp 20), (2, Operand.tmp 24)], type := 52, pos := "stm.go:66", after := _, guard := none } (v := ?vbr9) rfl (Or.inl ⟨by rfl, ?hybr9⟩) ?restbr9
  case hybr9 => (intro w hSw; (try dsimp only at hSw); go_simp <;> with_reducible rfl)
  try simp only [putW, setZ, setS]
  refine tkW 10 { dst := some 26, op := Op.nilCheck (Operand.tmp 16), type := 0, pos := "stm.go:66", after := _, guard := none } (v := ?vbr10) rfl (Or.inl ⟨by rfl, ?hybr10⟩) ?restbr10
  case hybr10 => (intro w hSw; (try dsimp only at hSw); go_simp <;> with_reducible rfl)
  try simp only [putW, setZ, setS]
  refine wpAnyH_ready (rs := [11]) (by kernel_rfl) (by simp) ?_
  refine AllReadyH.cons (o := { dst := none, op := Op.store 52 (Operand.tmp 26) (Operand.tmp 25), type := 0, pos := "stm.go:66", after := _, guard := none }) rfl (fun K hK => ?_) AllReadyH.nil
  refine step_store_tx ((HH.out.keep HB1.out).keep ((Below.refl _ _).drew)) HK.out { Tx.zero with tx := t.tx, try_ := t.try_ } ⟨rfl, rfl, rfl, rfl, rfl, rfl⟩ _ _ (by rfl) rfl rfl rfl ?_
  intro w2 hR2
  refine hK.out _ _ ?_ (fun hHeldbr11 => ?_)
  · exact ⟨hR2.tcells (RunW.set_at k HK.out _) (j := 1) rfl, hR2.tcells (RunW.set_at k HK.out _) (j := 2) rfl⟩
  clear hK K hHeldbr
  try simp only [Act.put, List.setIfInBounds_toArray, List.set_cons_zero, List.set_cons_succ]
  refine wpAnyH_done (by kernel_rfl) ?_ _
  have HR2 := Lib.hid hR2
  clear hR2
  go_wp2
  refine bodyPost_ret (results_none rfl _ _ _) rfl ?_
  exact ⟨rfl, HR2.out⟩

theorem over_any {k : Nat} {t : Tx} (h : RunW w0 w r φ a m pw pm pv (k : Int)) (hk : m.T[k]? = some t) (how : Int) (htx : 0 ≤ t.tx ∧ t.tx ≤ 1000) :
    Calls Try.prog 63 #[.pointer (some ⟨r, 0, none⟩), .int .i64 how] w fun e w' => e = .returned (.tuple #[]) ∧ RunW w0 w' r φ a (overM m k t how) pw pm pv (k : Int) := by
  by_cases hn : how = 1 ∧ t.try_ < 3
  · obtain ⟨rfl, hn⟩ := hn
    exact over_again h hk hn
  · exact over_next h hk how hn htx
end
end Go.Proofs.Ytmcbnpeihedcaaa
