/- foliateref19: step: printed by rs_step.py. -/
import Derived.Test.YtngimbfojccikaaRsWorkm
import Derived.Test.YtngimbfojccikaaRsBackm
import Derived.Test.YtngimbfojccikaaStmTellsJ
namespace Go.Proofs.Ytngimbfojccikaa
set_option linter.unusedSimpArgs false
open Go Go.RowKit
set_option linter.unusedVariables false
set_option maxRecDepth 100000

section
variable {w0 w w' : World} {r : Nat} {a : Ad} {m : Mm}

set_option maxHeartbeats 8000000 in
theorem rstep_none (h : RefW w0 w r a m) (pw pm : Int) (pv : Value) (pl : List (List (List Ac))) (hpl : PlV w pv pl) (who : Int) (hw : who < 0 ∨ (m.T.length : Int) ≤ who) (hT : m.T.length = pl.length) :
    Calls Try.prog 26 #[planV pw pm pv, .pointer (some ⟨r, 0, none⟩), .int .i64 who] w (RefP w0 r (stepM pl m who)) := by
  obtain ⟨A, c, rfl, _, _⟩ := hpl.form
  have HSP := Lib.hid (show stepM pl m who = m from by
    unfold stepM
    split
    · unfold stepK
      rw [List.getElem?_eq_none (by omega)]
    · rfl)
  obtain ⟨np, hnp⟩ : ∃ z, z = pl.length := ⟨_, rfl⟩
  rw [← hnp]
  obtain ⟨n, hn⟩ : ∃ z, z = m.T.length := ⟨_, rfl⟩
  rw [← hn] at hw
  have hbX := Below.alloc (Below.refl w.heap.size w) (Nat.le_refl _) (.cells #[.int .i64 pw, .int .i64 pm, .slice A np c] 24)
  have HX := Lib.hid (h.keep hbX)
  obtain ⟨wx, hwx⟩ : ∃ z, w.alloc (.cells #[.int .i64 pw, .int .i64 pm, .slice A np c] 24) = z := ⟨_, rfl⟩
  rw [hwx] at HX
  have HWX := Lib.hid hwx
  have r4 : wx.cell? ⟨r, 4, none⟩ = some (.slice (some ⟨a.gT, 0, none⟩) n a.cT) := by rw [hn]; exact HX.out.rcells 4
  clear hpl hT hnp hn hbX hwx h
  unfold planV
  go_enter Try.func26, Try.ntmps26
  go_upto_region 1 with fail
  rw [HWX.out]
  by_cases h0 : who < 0
  · skip
    refine wp_region_held_drew (S := fun W => True) (by kernel_rfl) ?_ (fun hbr => ?_)
    · trivial
    refine tkA 0 ?_
    refine tkA 1 (v := .bool true) ?_ (hy := by (intro w hSw; (try dsimp only at hSw); go_simp <;> first | done | with_reducible rfl | omega | (simp; done) | (simp; omega) | (simp [*]; done) | (simp [*]; omega) | exact decide_eq_false (by omega) | exact decide_eq_true (by omega)))
    refine tkA 2 ?_
    refine skA 3 ?_
    refine skA 4 ?_
    refine skA 5 ?_
    refine skA 6 ?_
    refine skA 7 ?_
    refine skA 8 ?_
    refine skA 9 ?_
    refine tkA 10 (v := .bool true) ?_ (hy := by (intro w hSw; (try dsimp only at hSw); go_simp <;> first | done | with_reducible rfl | omega | (simp; done) | (simp; omega) | (simp [*]; done) | (simp [*]; omega) | exact decide_eq_false (by omega) | exact decide_eq_true (by omega)))
    refine tkA 11 ?_
    refine skA 12 ?_
    refine skA 13 ?_
    refine skA 14 ?_
    refine skA 15 ?_
    refine skA 16 ?_
    refine skA 17 ?_
    refine skA 18 ?_
    refine skA 19 ?_
    refine skA 20 ?_
    refine skA 21 ?_
    refine skA 22 ?_
    refine skA 23 ?_
    refine skA 24 ?_
    refine skA 25 ?_
    refine skA 26 ?_
    refine tkA 27 ?_
    refine wpAnyH_done (by kernel_rfl) ?_ _
    go_wp2
    first | go_end0 | refine bodyPost_ret (results_none rfl _ _ _) rfl ?_
    exact ⟨rfl, _, _, HX.out.keep (Below.refl _ _).drew, by rw [HSP.out]⟩
  · have h1 : (n : Int) ≤ who := by omega
    refine wp_region_held_drew (S := fun W => W.cell? ⟨r, 4, none⟩ = some (.slice (some ⟨a.gT, 0, none⟩) n a.cT)) (by kernel_rfl) ?_ (fun hcr => ?_)
    · exact r4
    refine tkA 0 ?_
    refine tkA 1 (v := .bool false) ?_ (hy := by (intro w hSw; (try dsimp only at hSw); go_simp <;> first | done | with_reducible rfl | omega | (simp; done) | (simp; omega) | (simp [*]; done) | (simp [*]; omega) | exact decide_eq_false (by omega) | exact decide_eq_true (by omega)))
    refine tkA 2 ?_
    refine tkA 3 ?_
    refine tkA 4 ?_
    refine tkA 5 ?_
    refine tkA 6 ?_
    refine tkA 7 ?_
    refine tkA 8 ?_
    refine tkA 9 (v := .bool true) ?_ (hy := by (intro w hSw; (try dsimp only at hSw); go_simp <;> first | done | with_reducible rfl | omega | (simp; done) | (simp; omega) | (simp [*]; done) | (simp [*]; omega) | exact decide_eq_false (by omega) | exact decide_eq_true (by omega)))
    refine tkA 10 (v := .bool true) ?_ (hy := by (intro w hSw; (try dsimp only at hSw); go_simp <;> first | done | with_reducible rfl | omega | (simp; done) | (simp; omega) | (simp [*]; done) | (simp [*]; omega) | exact decide_eq_false (by omega) | exact decide_eq_true (by omega)))
    refine tkA 11 ?_
    refine skA 12 ?_
    refine skA 13 ?_
    refine skA 14 ?_
    refine skA 15 ?_
    refine skA 16 ?_
    refine skA 17 ?_
    refine skA 18 ?_
    refine skA 19 ?_
    refine skA 20 ?_
    refine skA 21 ?_
    refine skA 22 ?_
    refine skA 23 ?_
    refine skA 24 ?_
    refine skA 25 ?_
    refine skA 26 ?_
    refine tkA 27 ?_
    refine wpAnyH_done (by kernel_rfl) ?_ _
    go_wp2
    first | go_end0 | refine bodyPost_ret (results_none rfl _ _ _) rfl ?_
    exact ⟨rfl, _, _, HX.out.keep (Below.refl _ _).drew, by rw [HSP.out]⟩

set_option maxHeartbeats 8000000 in
theorem rstep_over (h : RefW w0 w r a m) (pw pm : Int) (pv : Value) (pl : List (List (List Ac))) (hpl : PlV w pv pl) {k : Nat} {t : Tx} {txs : List (List Ac)} (hk : m.T[k]? = some t) (hpk : pl[k]? = some txs) (hlt : (txs.length : Int) ≤ t.tx) :
    Calls Try.prog 26 #[planV pw pm pv, .pointer (some ⟨r, 0, none⟩), .int .i64 (k : Int)] w fun e w' => e = .returned (.tuple #[]) ∧ RefW w0 w' r a m := by
  obtain ⟨bp, op_, c, A1, d1, e0, hbp, _, hcp, hT1⟩ := hpl.at_ hpk
  subst e0
  have hkl := (List.getElem?_eq_some_iff.1 hk).1
  have hkp := (List.getElem?_eq_some_iff.1 hpk).1
  obtain ⟨np, hnp⟩ : ∃ z, z = pl.length := ⟨_, rfl⟩
  obtain ⟨n, hn⟩ : ∃ z, z = m.T.length := ⟨_, rfl⟩
  obtain ⟨nx, hnx⟩ : ∃ z, z = txs.length := ⟨_, rfl⟩
  have HNX := Lib.hid hnx
  have HN := Lib.hid hn
  have hk0 : (0 : Int) ≤ (k : Int) := by omega
  have hk1 : (k : Int) < (n : Int) := by omega
  have hk2 : (k : Int) < (np : Int) := by omega
  have hk3 : ¬ (k : Int) < 0 := by omega
  have hk4 : ¬ (n : Int) ≤ (k : Int) := by omega
  have HK := Lib.hid hk
  have hbX := Below.alloc (Below.refl w.heap.size w) (Nat.le_refl _) (.cells #[.int .i64 pw, .int .i64 pm, .slice (some ⟨bp, op_, none⟩) np c] 24)
  have kX := Blk.new_ w 24 #[.int .i64 pw, .int .i64 pm, .slice (some ⟨bp, op_, none⟩) np c] _ rfl
  have HX := Lib.hid (h.keep hbX)
  have HBX := Lib.hid hbX
  have HHT := Lib.hid h.apart.2.2.2.1
  obtain ⟨wx, hwx⟩ : ∃ z, w.alloc (.cells #[.int .i64 pw, .int .i64 pm, .slice (some ⟨bp, op_, none⟩) np c] 24) = z := ⟨_, rfl⟩
  rw [hwx] at HX HBX kX
  have HWX := Lib.hid hwx
  obtain ⟨gp, hgp⟩ : ∃ z, w.heap.size = z := ⟨_, rfl⟩
  rw [hgp] at kX
  have HGP := Lib.hid hgp
  have HKX := Lib.hid kX
  have HC := Lib.hid (fun W (hb : Below wx.heap.size wx W) => (show W.cell? ⟨r, 4, none⟩ = some (.slice (some ⟨a.gT, 0, none⟩) n a.cT) ∧ W.cell? ⟨gp, 2, none⟩ = some (.slice (some ⟨bp, op_, none⟩) np c) ∧ W.cell? ⟨bp, op_ + k, none⟩ = some (.slice A1 nx d1) ∧ W.cell? ⟨a.gT, k * 11 + 1, none⟩ = some (.int .i64 t.tx) ∧ W.cell? ⟨a.gT, k * 11, none⟩ = some (.int .i64 t.st) from
    ⟨by rw [HN.out]; exact (HX.out.keep hb).rcells 4, by rw [(HKX.out.keep hb).cell]; rfl, by rw [HNX.out]; exact ((HBX.out.trans (hb.mono HBX.out.size)).cell (p := ⟨bp, op_ + k, none⟩) hbp).trans hcp, (HX.out.keep hb).tcells (j := 1) HK.out rfl, by have := (HX.out.keep hb).tcells (j := 0) HK.out rfl; simpa using this⟩))
  rw [← hnx] at hlt
  rw [← hnp]
  clear hpl hpk hT1 h kX hbX hwx hgp hkl hkp hnp hn hnx hcp
  unfold planV
  go_enter Try.func26, Try.ntmps26
  go_upto_region 1 with fail
  rw [HWX.out, HGP.out]
  refine wp_region_held_drew (S := fun W => W.cell? ⟨r, 4, none⟩ = some (.slice (some ⟨a.gT, 0, none⟩) n a.cT) ∧ W.cell? ⟨gp, 2, none⟩ = some (.slice (some ⟨bp, op_, none⟩) np c) ∧ W.cell? ⟨bp, op_ + k, none⟩ = some (.slice A1 nx d1) ∧ W.cell? ⟨a.gT, k * 11 + 1, none⟩ = some (.int .i64 t.tx) ∧ W.cell? ⟨a.gT, k * 11, none⟩ = some (.int .i64 t.st)) (by kernel_rfl) ?_ (fun hdr => ?_)
  · exact HC.out _ (Below.refl _ _).drew
  refine tkA 0 ?_
  refine tkA 1 (v := .bool false) ?_ (hy := by (intro w hSw; (try dsimp only at hSw); go_simp <;> first | done | with_reducible rfl | omega | (simp; done) | (simp; omega) | (simp [*]; done) | (simp [*]; omega) | exact decide_eq_false (by omega) | exact decide_eq_true (by omega)))
  refine tkA 2 ?_
  refine tkA 3 ?_
  refine tkA 4 ?_
  refine tkA 5 ?_
  refine tkA 6 ?_
  refine tkA 7 ?_
  refine tkA 8 ?_
  refine tkA 9 (v := .bool false) ?_ (hy := by (intro w hSw; (try dsimp only at hSw); go_simp <;> first | done | with_reducible rfl | omega | (simp; done) | (simp; omega) | (simp [*]; done) | (simp [*]; omega) | exact decide_eq_false (by omega) | exact decide_eq_true (by omega)))
  refine tkA 10 ?_
  refine tkA 11 ?_
  refine tkA 12 ?_
  refine tkA 13 ?_
  refine tkA 14 ?_
  refine tkA 15 ?_
  refine tkA 16 ?_
  refine tkA 17 ?_
  refine tkA 18 ?_
  refine tkA 19 ?_
  refine tkA 20 ?_
  refine tkA 21 ?_
  refine tkA 22 ?_
  refine tkA 23 ?_
  refine tkA 24 ?_
  refine tkA 25 ?_
  refine tkA 26 (v := .bool true) ?_ (hy := by (intro w hSw; (try dsimp only at hSw); go_simp <;> first | done | with_reducible rfl | omega | (simp; done) | (simp; omega) | (simp [*]; done) | (simp [*]; omega) | exact decide_eq_false (by omega) | exact decide_eq_true (by omega)))
  refine tkA 27 ?_
  refine wpAnyH_done (by kernel_rfl) ?_ _
  have HD := Lib.hid (show Below wx.heap.size wx wx.drew from (Below.refl _ _).drew)
  go_wp2
  first | go_end0 | refine bodyPost_ret (results_none rfl _ _ _) rfl ?_
  exact ⟨rfl, HX.out.keep HD.out⟩

set_option maxHeartbeats 8000000 in
theorem rstep_hold (h : RefW w0 w r a m) (pw pm : Int) (pv : Value) (pl : List (List (List Ac))) (hpl : PlV w pv pl) {k : Nat} {t : Tx} {txs : List (List Ac)} (hk : m.T[k]? = some t) (hpk : pl[k]? = some txs) (hlt : t.tx < (txs.length : Int)) (hst : t.st = 2) 
    (hcon : ∀ W, Below w.heap.size w W → RefW w0 W r a m → Calls Try.prog 51 #[.pointer (some ⟨r, 0, none⟩), .int .i64 (k : Int)] W (RefP w0 r (holdM m k t))) :
    Calls Try.prog 26 #[planV pw pm pv, .pointer (some ⟨r, 0, none⟩), .int .i64 (k : Int)] w (RefP w0 r (holdM m k t)) := by
  obtain ⟨bp, op_, c, A1, d1, e0, hbp, _, hcp, hT1⟩ := hpl.at_ hpk
  subst e0
  have hkl := (List.getElem?_eq_some_iff.1 hk).1
  have hkp := (List.getElem?_eq_some_iff.1 hpk).1
  obtain ⟨np, hnp⟩ : ∃ z, z = pl.length := ⟨_, rfl⟩
  obtain ⟨n, hn⟩ : ∃ z, z = m.T.length := ⟨_, rfl⟩
  obtain ⟨nx, hnx⟩ : ∃ z, z = txs.length := ⟨_, rfl⟩
  have HNX := Lib.hid hnx
  have HN := Lib.hid hn
  have hk0 : (0 : Int) ≤ (k : Int) := by omega
  have hk1 : (k : Int) < (n : Int) := by omega
  have hk2 : (k : Int) < (np : Int) := by omega
  have hk3 : ¬ (k : Int) < 0 := by omega
  have hk4 : ¬ (n : Int) ≤ (k : Int) := by omega
  have HK := Lib.hid hk
  have hbX := Below.alloc (Below.refl w.heap.size w) (Nat.le_refl _) (.cells #[.int .i64 pw, .int .i64 pm, .slice (some ⟨bp, op_, none⟩) np c] 24)
  have kX := Blk.new_ w 24 #[.int .i64 pw, .int .i64 pm, .slice (some ⟨bp, op_, none⟩) np c] _ rfl
  have HX := Lib.hid (h.keep hbX)
  have HBX := Lib.hid hbX
  have HHT := Lib.hid h.apart.2.2.2.1
  obtain ⟨wx, hwx⟩ : ∃ z, w.alloc (.cells #[.int .i64 pw, .int .i64 pm, .slice (some ⟨bp, op_, none⟩) np c] 24) = z := ⟨_, rfl⟩
  rw [hwx] at HX HBX kX
  have HWX := Lib.hid hwx
  obtain ⟨gp, hgp⟩ : ∃ z, w.heap.size = z := ⟨_, rfl⟩
  rw [hgp] at kX
  have HGP := Lib.hid hgp
  have HKX := Lib.hid kX
  have HC := Lib.hid (fun W (hb : Below wx.heap.size wx W) => (show W.cell? ⟨r, 4, none⟩ = some (.slice (some ⟨a.gT, 0, none⟩) n a.cT) ∧ W.cell? ⟨gp, 2, none⟩ = some (.slice (some ⟨bp, op_, none⟩) np c) ∧ W.cell? ⟨bp, op_ + k, none⟩ = some (.slice A1 nx d1) ∧ W.cell? ⟨a.gT, k * 11 + 1, none⟩ = some (.int .i64 t.tx) ∧ W.cell? ⟨a.gT, k * 11, none⟩ = some (.int .i64 t.st) from
    ⟨by rw [HN.out]; exact (HX.out.keep hb).rcells 4, by rw [(HKX.out.keep hb).cell]; rfl, by rw [HNX.out]; exact ((HBX.out.trans (hb.mono HBX.out.size)).cell (p := ⟨bp, op_ + k, none⟩) hbp).trans hcp, (HX.out.keep hb).tcells (j := 1) HK.out rfl, by have := (HX.out.keep hb).tcells (j := 0) HK.out rfl; simpa using this⟩))
  have hlt' : ¬ (nx : Int) ≤ t.tx := by omega
  have HCON := Lib.hid hcon
  have HST := Lib.hid hst
  rw [hst] at HC
  rw [← hnp]
  clear hpl hpk hT1 h hlt hst hcon kX hbX hwx hgp hkl hkp hnp hn hnx hcp
  unfold planV
  go_enter Try.func26, Try.ntmps26
  go_upto_region 1 with fail
  rw [HWX.out, HGP.out]
  refine wp_region_held_drew (S := fun W => W.cell? ⟨r, 4, none⟩ = some (.slice (some ⟨a.gT, 0, none⟩) n a.cT) ∧ W.cell? ⟨gp, 2, none⟩ = some (.slice (some ⟨bp, op_, none⟩) np c) ∧ W.cell? ⟨bp, op_ + k, none⟩ = some (.slice A1 nx d1) ∧ W.cell? ⟨a.gT, k * 11 + 1, none⟩ = some (.int .i64 t.tx) ∧ W.cell? ⟨a.gT, k * 11, none⟩ = some (.int .i64 2)) (by kernel_rfl) ?_ (fun her => ?_)
  · exact HC.out _ (Below.refl _ _).drew
  refine tkA 0 ?_
  refine tkA 1 (v := .bool false) ?_ (hy := by (intro w hSw; (try dsimp only at hSw); go_simp <;> first | done | with_reducible rfl | omega | (simp; done) | (simp; omega) | (simp [*]; done) | (simp [*]; omega) | exact decide_eq_false (by omega) | exact decide_eq_true (by omega)))
  refine tkA 2 ?_
  refine tkA 3 ?_
  refine tkA 4 ?_
  refine tkA 5 ?_
  refine tkA 6 ?_
  refine tkA 7 ?_
  refine tkA 8 ?_
  refine tkA 9 (v := .bool false) ?_ (hy := by (intro w hSw; (try dsimp only at hSw); go_simp <;> first | done | with_reducible rfl | omega | (simp; done) | (simp; omega) | (simp [*]; done) | (simp [*]; omega) | exact decide_eq_false (by omega) | exact decide_eq_true (by omega)))
  refine tkA 10 ?_
  refine tkA 11 ?_
  refine tkA 12 ?_
  refine tkA 13 ?_
  refine tkA 14 ?_
  refine tkA 15 ?_
  refine tkA 16 ?_
  refine tkA 17 ?_
  refine tkA 18 ?_
  refine tkA 19 ?_
  refine tkA 20 ?_
  refine tkA 21 ?_
  refine tkA 22 ?_
  refine tkA 23 ?_
  refine tkA 24 ?_
  refine tkA 25 ?_
  refine tkA 26 (v := .bool false) ?_ (hy := by (intro w hSw; (try dsimp only at hSw); go_simp <;> first | done | with_reducible rfl | omega | (simp; done) | (simp; omega) | (simp [*]; done) | (simp [*]; omega) | exact decide_eq_false (by omega) | exact decide_eq_true (by omega)))
  refine tkA 27 ?_
  refine wpAnyH_done (by kernel_rfl) ?_ _
  have HD := Lib.hid (show Below wx.heap.size wx wx.drew from (Below.refl _ _).drew)
  obtain ⟨z1, z2, z3, z4, z5⟩ := HC.out _ (Below.refl _ _)
  go_wp2_with fail
  refine (HCON.out _ (HBX.out.trans (HD.out.mono HBX.out.size)) (HX.out.keep HD.out)).mono ?_
  rintro e w5 ⟨rfl, hp⟩
  have HP := Lib.hid hp
  clear hp z1 z2 z3 z4 z5
  go_wp2
  first | go_end0 | refine bodyPost_ret (results_none rfl _ _ _) rfl ?_
  exact ⟨rfl, HP.out⟩

set_option maxHeartbeats 8000000 in
theorem rstep_tick (h : RefW w0 w r a m) (pw pm : Int) (pv : Value) (pl : List (List (List Ac))) (hpl : PlV w pv pl) {k : Nat} {t : Tx} {txs : List (List Ac)} (hk : m.T[k]? = some t) (hpk : pl[k]? = some txs) (hlt : t.tx < (txs.length : Int)) (hst : t.st = 3) 
    (hcon : ∀ W, Below w.heap.size w W → RefW w0 W r a m → Calls Try.prog 52 #[.pointer (some ⟨r, 0, none⟩), .int .i64 (k : Int)] W (RefP w0 r (tickM m k t))) :
    Calls Try.prog 26 #[planV pw pm pv, .pointer (some ⟨r, 0, none⟩), .int .i64 (k : Int)] w (RefP w0 r (tickM m k t)) := by
  obtain ⟨bp, op_, c, A1, d1, e0, hbp, _, hcp, hT1⟩ := hpl.at_ hpk
  subst e0
  have hkl := (List.getElem?_eq_some_iff.1 hk).1
  have hkp := (List.getElem?_eq_some_iff.1 hpk).1
  obtain ⟨np, hnp⟩ : ∃ z, z = pl.length := ⟨_, rfl⟩
  obtain ⟨n, hn⟩ : ∃ z, z = m.T.length := ⟨_, rfl⟩
  obtain ⟨nx, hnx⟩ : ∃ z, z = txs.length := ⟨_, rfl⟩
  have HNX := Lib.hid hnx
  have HN := Lib.hid hn
  have hk0 : (0 : Int) ≤ (k : Int) := by omega
  have hk1 : (k : Int) < (n : Int) := by omega
  have hk2 : (k : Int) < (np : Int) := by omega
  have hk3 : ¬ (k : Int) < 0 := by omega
  have hk4 : ¬ (n : Int) ≤ (k : Int) := by omega
  have HK := Lib.hid hk
  have hbX := Below.alloc (Below.refl w.heap.size w) (Nat.le_refl _) (.cells #[.int .i64 pw, .int .i64 pm, .slice (some ⟨bp, op_, none⟩) np c] 24)
  have kX := Blk.new_ w 24 #[.int .i64 pw, .int .i64 pm, .slice (some ⟨bp, op_, none⟩) np c] _ rfl
  have HX := Lib.hid (h.keep hbX)
  have HBX := Lib.hid hbX
  have HHT := Lib.hid h.apart.2.2.2.1
  obtain ⟨wx, hwx⟩ : ∃ z, w.alloc (.cells #[.int .i64 pw, .int .i64 pm, .slice (some ⟨bp, op_, none⟩) np c] 24) = z := ⟨_, rfl⟩
  rw [hwx] at HX HBX kX
  have HWX := Lib.hid hwx
  obtain ⟨gp, hgp⟩ : ∃ z, w.heap.size = z := ⟨_, rfl⟩
  rw [hgp] at kX
  have HGP := Lib.hid hgp
  have HKX := Lib.hid kX
  have HC := Lib.hid (fun W (hb : Below wx.heap.size wx W) => (show W.cell? ⟨r, 4, none⟩ = some (.slice (some ⟨a.gT, 0, none⟩) n a.cT) ∧ W.cell? ⟨gp, 2, none⟩ = some (.slice (some ⟨bp, op_, none⟩) np c) ∧ W.cell? ⟨bp, op_ + k, none⟩ = some (.slice A1 nx d1) ∧ W.cell? ⟨a.gT, k * 11 + 1, none⟩ = some (.int .i64 t.tx) ∧ W.cell? ⟨a.gT, k * 11, none⟩ = some (.int .i64 t.st) from
    ⟨by rw [HN.out]; exact (HX.out.keep hb).rcells 4, by rw [(HKX.out.keep hb).cell]; rfl, by rw [HNX.out]; exact ((HBX.out.trans (hb.mono HBX.out.size)).cell (p := ⟨bp, op_ + k, none⟩) hbp).trans hcp, (HX.out.keep hb).tcells (j := 1) HK.out rfl, by have := (HX.out.keep hb).tcells (j := 0) HK.out rfl; simpa using this⟩))
  have hlt' : ¬ (nx : Int) ≤ t.tx := by omega
  have HCON := Lib.hid hcon
  have HST := Lib.hid hst
  rw [hst] at HC
  rw [← hnp]
  clear hpl hpk hT1 h hlt hst hcon kX hbX hwx hgp hkl hkp hnp hn hnx hcp
  unfold planV
  go_enter Try.func26, Try.ntmps26
  go_upto_region 1 with fail
  rw [HWX.out, HGP.out]
  refine wp_region_held_drew (S := fun W => W.cell? ⟨r, 4, none⟩ = some (.slice (some ⟨a.gT, 0, none⟩) n a.cT) ∧ W.cell? ⟨gp, 2, none⟩ = some (.slice (some ⟨bp, op_, none⟩) np c) ∧ W.cell? ⟨bp, op_ + k, none⟩ = some (.slice A1 nx d1) ∧ W.cell? ⟨a.gT, k * 11 + 1, none⟩ = some (.int .i64 t.tx) ∧ W.cell? ⟨a.gT, k * 11, none⟩ = some (.int .i64 3)) (by kernel_rfl) ?_ (fun hfr => ?_)
  · exact HC.out _ (Below.refl _ _).drew
  refine tkA 0 ?_
  refine tkA 1 (v := .bool false) ?_ (hy := by (intro w hSw; (try dsimp only at hSw); go_simp <;> first | done | with_reducible rfl | omega | (simp; done) | (simp; omega) | (simp [*]; done) | (simp [*]; omega) | exact decide_eq_false (by omega) | exact decide_eq_true (by omega)))
  refine tkA 2 ?_
  refine tkA 3 ?_
  refine tkA 4 ?_
  refine tkA 5 ?_
  refine tkA 6 ?_
  refine tkA 7 ?_
  refine tkA 8 ?_
  refine tkA 9 (v := .bool false) ?_ (hy := by (intro w hSw; (try dsimp only at hSw); go_simp <;> first | done | with_reducible rfl | omega | (simp; done) | (simp; omega) | (simp [*]; done) | (simp [*]; omega) | exact decide_eq_false (by omega) | exact decide_eq_true (by omega)))
  refine tkA 10 ?_
  refine tkA 11 ?_
  refine tkA 12 ?_
  refine tkA 13 ?_
  refine tkA 14 ?_
  refine tkA 15 ?_
  refine tkA 16 ?_
  refine tkA 17 ?_
  refine tkA 18 ?_
  refine tkA 19 ?_
  refine tkA 20 ?_
  refine tkA 21 ?_
  refine tkA 22 ?_
  refine tkA 23 ?_
  refine tkA 24 ?_
  refine tkA 25 ?_
  refine tkA 26 (v := .bool false) ?_ (hy := by (intro w hSw; (try dsimp only at hSw); go_simp <;> first | done | with_reducible rfl | omega | (simp; done) | (simp; omega) | (simp [*]; done) | (simp [*]; omega) | exact decide_eq_false (by omega) | exact decide_eq_true (by omega)))
  refine tkA 27 ?_
  refine wpAnyH_done (by kernel_rfl) ?_ _
  have HD := Lib.hid (show Below wx.heap.size wx wx.drew from (Below.refl _ _).drew)
  obtain ⟨z1, z2, z3, z4, z5⟩ := HC.out _ (Below.refl _ _)
  go_wp2_with fail
  refine (HCON.out _ (HBX.out.trans (HD.out.mono HBX.out.size)) (HX.out.keep HD.out)).mono ?_
  rintro e w5 ⟨rfl, hp⟩
  have HP := Lib.hid hp
  clear hp z1 z2 z3 z4 z5
  go_wp2
  first | go_end0 | refine bodyPost_ret (results_none rfl _ _ _) rfl ?_
  exact ⟨rfl, HP.out⟩

set_option maxHeartbeats 8000000 in
theorem rstep_check (h : RefW w0 w r a m) (pw pm : Int) (pv : Value) (pl : List (List (List Ac))) (hpl : PlV w pv pl) {k : Nat} {t : Tx} {txs : List (List Ac)} (hk : m.T[k]? = some t) (hpk : pl[k]? = some txs) (hlt : t.tx < (txs.length : Int)) (hst : t.st = 4) 
    (hcon : ∀ W, Below w.heap.size w W → RefW w0 W r a m → Calls Try.prog 53 #[.pointer (some ⟨r, 0, none⟩), .int .i64 (k : Int)] W (RefP w0 r (checkM m k t))) :
    Calls Try.prog 26 #[planV pw pm pv, .pointer (some ⟨r, 0, none⟩), .int .i64 (k : Int)] w (RefP w0 r (checkM m k t)) := by
  obtain ⟨bp, op_, c, A1, d1, e0, hbp, _, hcp, hT1⟩ := hpl.at_ hpk
  subst e0
  have hkl := (List.getElem?_eq_some_iff.1 hk).1
  have hkp := (List.getElem?_eq_some_iff.1 hpk).1
  obtain ⟨np, hnp⟩ : ∃ z, z = pl.length := ⟨_, rfl⟩
  obtain ⟨n, hn⟩ : ∃ z, z = m.T.length := ⟨_, rfl⟩
  obtain ⟨nx, hnx⟩ : ∃ z, z = txs.length := ⟨_, rfl⟩
  have HNX := Lib.hid hnx
  have HN := Lib.hid hn
  have hk0 : (0 : Int) ≤ (k : Int) := by omega
  have hk1 : (k : Int) < (n : Int) := by omega
  have hk2 : (k : Int) < (np : Int) := by omega
  have hk3 : ¬ (k : Int) < 0 := by omega
  have hk4 : ¬ (n : Int) ≤ (k : Int) := by omega
  have HK := Lib.hid hk
  have hbX := Below.alloc (Below.refl w.heap.size w) (Nat.le_refl _) (.cells #[.int .i64 pw, .int .i64 pm, .slice (some ⟨bp, op_, none⟩) np c] 24)
  have kX := Blk.new_ w 24 #[.int .i64 pw, .int .i64 pm, .slice (some ⟨bp, op_, none⟩) np c] _ rfl
  have HX := Lib.hid (h.keep hbX)
  have HBX := Lib.hid hbX
  have HHT := Lib.hid h.apart.2.2.2.1
  obtain ⟨wx, hwx⟩ : ∃ z, w.alloc (.cells #[.int .i64 pw, .int .i64 pm, .slice (some ⟨bp, op_, none⟩) np c] 24) = z := ⟨_, rfl⟩
  rw [hwx] at HX HBX kX
  have HWX := Lib.hid hwx
  obtain ⟨gp, hgp⟩ : ∃ z, w.heap.size = z := ⟨_, rfl⟩
  rw [hgp] at kX
  have HGP := Lib.hid hgp
  have HKX := Lib.hid kX
  have HC := Lib.hid (fun W (hb : Below wx.heap.size wx W) => (show W.cell? ⟨r, 4, none⟩ = some (.slice (some ⟨a.gT, 0, none⟩) n a.cT) ∧ W.cell? ⟨gp, 2, none⟩ = some (.slice (some ⟨bp, op_, none⟩) np c) ∧ W.cell? ⟨bp, op_ + k, none⟩ = some (.slice A1 nx d1) ∧ W.cell? ⟨a.gT, k * 11 + 1, none⟩ = some (.int .i64 t.tx) ∧ W.cell? ⟨a.gT, k * 11, none⟩ = some (.int .i64 t.st) from
    ⟨by rw [HN.out]; exact (HX.out.keep hb).rcells 4, by rw [(HKX.out.keep hb).cell]; rfl, by rw [HNX.out]; exact ((HBX.out.trans (hb.mono HBX.out.size)).cell (p := ⟨bp, op_ + k, none⟩) hbp).trans hcp, (HX.out.keep hb).tcells (j := 1) HK.out rfl, by have := (HX.out.keep hb).tcells (j := 0) HK.out rfl; simpa using this⟩))
  have hlt' : ¬ (nx : Int) ≤ t.tx := by omega
  have HCON := Lib.hid hcon
  have HST := Lib.hid hst
  rw [hst] at HC
  rw [← hnp]
  clear hpl hpk hT1 h hlt hst hcon kX hbX hwx hgp hkl hkp hnp hn hnx hcp
  unfold planV
  go_enter Try.func26, Try.ntmps26
  go_upto_region 1 with fail
  rw [HWX.out, HGP.out]
  refine wp_region_held_drew (S := fun W => W.cell? ⟨r, 4, none⟩ = some (.slice (some ⟨a.gT, 0, none⟩) n a.cT) ∧ W.cell? ⟨gp, 2, none⟩ = some (.slice (some ⟨bp, op_, none⟩) np c) ∧ W.cell? ⟨bp, op_ + k, none⟩ = some (.slice A1 nx d1) ∧ W.cell? ⟨a.gT, k * 11 + 1, none⟩ = some (.int .i64 t.tx) ∧ W.cell? ⟨a.gT, k * 11, none⟩ = some (.int .i64 4)) (by kernel_rfl) ?_ (fun hgr => ?_)
  · exact HC.out _ (Below.refl _ _).drew
  refine tkA 0 ?_
  refine tkA 1 (v := .bool false) ?_ (hy := by (intro w hSw; (try dsimp only at hSw); go_simp <;> first | done | with_reducible rfl | omega | (simp; done) | (simp; omega) | (simp [*]; done) | (simp [*]; omega) | exact decide_eq_false (by omega) | exact decide_eq_true (by omega)))
  refine tkA 2 ?_
  refine tkA 3 ?_
  refine tkA 4 ?_
  refine tkA 5 ?_
  refine tkA 6 ?_
  refine tkA 7 ?_
  refine tkA 8 ?_
  refine tkA 9 (v := .bool false) ?_ (hy := by (intro w hSw; (try dsimp only at hSw); go_simp <;> first | done | with_reducible rfl | omega | (simp; done) | (simp; omega) | (simp [*]; done) | (simp [*]; omega) | exact decide_eq_false (by omega) | exact decide_eq_true (by omega)))
  refine tkA 10 ?_
  refine tkA 11 ?_
  refine tkA 12 ?_
  refine tkA 13 ?_
  refine tkA 14 ?_
  refine tkA 15 ?_
  refine tkA 16 ?_
  refine tkA 17 ?_
  refine tkA 18 ?_
  refine tkA 19 ?_
  refine tkA 20 ?_
  refine tkA 21 ?_
  refine tkA 22 ?_
  refine tkA 23 ?_
  refine tkA 24 ?_
  refine tkA 25 ?_
  refine tkA 26 (v := .bool false) ?_ (hy := by (intro w hSw; (try dsimp only at hSw); go_simp <;> first | done | with_reducible rfl | omega | (simp; done) | (simp; omega) | (simp [*]; done) | (simp [*]; omega) | exact decide_eq_false (by omega) | exact decide_eq_true (by omega)))
  refine tkA 27 ?_
  refine wpAnyH_done (by kernel_rfl) ?_ _
  have HD := Lib.hid (show Below wx.heap.size wx wx.drew from (Below.refl _ _).drew)
  obtain ⟨z1, z2, z3, z4, z5⟩ := HC.out _ (Below.refl _ _)
  go_wp2_with fail
  refine (HCON.out _ (HBX.out.trans (HD.out.mono HBX.out.size)) (HX.out.keep HD.out)).mono ?_
  rintro e w5 ⟨rfl, hp⟩
  have HP := Lib.hid hp
  clear hp z1 z2 z3 z4 z5
  go_wp2
  first | go_end0 | refine bodyPost_ret (results_none rfl _ _ _) rfl ?_
  exact ⟨rfl, HP.out⟩

set_option maxHeartbeats 8000000 in
theorem rstep_back (h : RefW w0 w r a m) (pw pm : Int) (pv : Value) (pl : List (List (List Ac))) (hpl : PlV w pv pl) {k : Nat} {t : Tx} {txs : List (List Ac)} (hk : m.T[k]? = some t) (hpk : pl[k]? = some txs) (hlt : t.tx < (txs.length : Int)) (hst : t.st = 5) 
    (hcon : ∀ W, Below w.heap.size w W → RefW w0 W r a m → Calls Try.prog 54 #[.pointer (some ⟨r, 0, none⟩), .int .i64 (k : Int)] W (RefP w0 r (backM m k t))) :
    Calls Try.prog 26 #[planV pw pm pv, .pointer (some ⟨r, 0, none⟩), .int .i64 (k : Int)] w (RefP w0 r (backM m k t)) := by
  obtain ⟨bp, op_, c, A1, d1, e0, hbp, _, hcp, hT1⟩ := hpl.at_ hpk
  subst e0
  have hkl := (List.getElem?_eq_some_iff.1 hk).1
  have hkp := (List.getElem?_eq_some_iff.1 hpk).1
  obtain ⟨np, hnp⟩ : ∃ z, z = pl.length := ⟨_, rfl⟩
  obtain ⟨n, hn⟩ : ∃ z, z = m.T.length := ⟨_, rfl⟩
  obtain ⟨nx, hnx⟩ : ∃ z, z = txs.length := ⟨_, rfl⟩
  have HNX := Lib.hid hnx
  have HN := Lib.hid hn
  have hk0 : (0 : Int) ≤ (k : Int) := by omega
  have hk1 : (k : Int) < (n : Int) := by omega
  have hk2 : (k : Int) < (np : Int) := by omega
  have hk3 : ¬ (k : Int) < 0 := by omega
  have hk4 : ¬ (n : Int) ≤ (k : Int) := by omega
  have HK := Lib.hid hk
  have hbX := Below.alloc (Below.refl w.heap.size w) (Nat.le_refl _) (.cells #[.int .i64 pw, .int .i64 pm, .slice (some ⟨bp, op_, none⟩) np c] 24)
  have kX := Blk.new_ w 24 #[.int .i64 pw, .int .i64 pm, .slice (some ⟨bp, op_, none⟩) np c] _ rfl
  have HX := Lib.hid (h.keep hbX)
  have HBX := Lib.hid hbX
  have HHT := Lib.hid h.apart.2.2.2.1
  obtain ⟨wx, hwx⟩ : ∃ z, w.alloc (.cells #[.int .i64 pw, .int .i64 pm, .slice (some ⟨bp, op_, none⟩) np c] 24) = z := ⟨_, rfl⟩
  rw [hwx] at HX HBX kX
  have HWX := Lib.hid hwx
  obtain ⟨gp, hgp⟩ : ∃ z, w.heap.size = z := ⟨_, rfl⟩
  rw [hgp] at kX
  have HGP := Lib.hid hgp
  have HKX := Lib.hid kX
  have HC := Lib.hid (fun W (hb : Below wx.heap.size wx W) => (show W.cell? ⟨r, 4, none⟩ = some (.slice (some ⟨a.gT, 0, none⟩) n a.cT) ∧ W.cell? ⟨gp, 2, none⟩ = some (.slice (some ⟨bp, op_, none⟩) np c) ∧ W.cell? ⟨bp, op_ + k, none⟩ = some (.slice A1 nx d1) ∧ W.cell? ⟨a.gT, k * 11 + 1, none⟩ = some (.int .i64 t.tx) ∧ W.cell? ⟨a.gT, k * 11, none⟩ = some (.int .i64 t.st) from
    ⟨by rw [HN.out]; exact (HX.out.keep hb).rcells 4, by rw [(HKX.out.keep hb).cell]; rfl, by rw [HNX.out]; exact ((HBX.out.trans (hb.mono HBX.out.size)).cell (p := ⟨bp, op_ + k, none⟩) hbp).trans hcp, (HX.out.keep hb).tcells (j := 1) HK.out rfl, by have := (HX.out.keep hb).tcells (j := 0) HK.out rfl; simpa using this⟩))
  have hlt' : ¬ (nx : Int) ≤ t.tx := by omega
  have HCON := Lib.hid hcon
  have HST := Lib.hid hst
  rw [hst] at HC
  rw [← hnp]
  clear hpl hpk hT1 h hlt hst hcon kX hbX hwx hgp hkl hkp hnp hn hnx hcp
  unfold planV
  go_enter Try.func26, Try.ntmps26
  go_upto_region 1 with fail
  rw [HWX.out, HGP.out]
  refine wp_region_held_drew (S := fun W => W.cell? ⟨r, 4, none⟩ = some (.slice (some ⟨a.gT, 0, none⟩) n a.cT) ∧ W.cell? ⟨gp, 2, none⟩ = some (.slice (some ⟨bp, op_, none⟩) np c) ∧ W.cell? ⟨bp, op_ + k, none⟩ = some (.slice A1 nx d1) ∧ W.cell? ⟨a.gT, k * 11 + 1, none⟩ = some (.int .i64 t.tx) ∧ W.cell? ⟨a.gT, k * 11, none⟩ = some (.int .i64 5)) (by kernel_rfl) ?_ (fun hhr => ?_)
  · exact HC.out _ (Below.refl _ _).drew
  refine tkA 0 ?_
  refine tkA 1 (v := .bool false) ?_ (hy := by (intro w hSw; (try dsimp only at hSw); go_simp <;> first | done | with_reducible rfl | omega | (simp; done) | (simp; omega) | (simp [*]; done) | (simp [*]; omega) | exact decide_eq_false (by omega) | exact decide_eq_true (by omega)))
  refine tkA 2 ?_
  refine tkA 3 ?_
  refine tkA 4 ?_
  refine tkA 5 ?_
  refine tkA 6 ?_
  refine tkA 7 ?_
  refine tkA 8 ?_
  refine tkA 9 (v := .bool false) ?_ (hy := by (intro w hSw; (try dsimp only at hSw); go_simp <;> first | done | with_reducible rfl | omega | (simp; done) | (simp; omega) | (simp [*]; done) | (simp [*]; omega) | exact decide_eq_false (by omega) | exact decide_eq_true (by omega)))
  refine tkA 10 ?_
  refine tkA 11 ?_
  refine tkA 12 ?_
  refine tkA 13 ?_
  refine tkA 14 ?_
  refine tkA 15 ?_
  refine tkA 16 ?_
  refine tkA 17 ?_
  refine tkA 18 ?_
  refine tkA 19 ?_
  refine tkA 20 ?_
  refine tkA 21 ?_
  refine tkA 22 ?_
  refine tkA 23 ?_
  refine tkA 24 ?_
  refine tkA 25 ?_
  refine tkA 26 (v := .bool false) ?_ (hy := by (intro w hSw; (try dsimp only at hSw); go_simp <;> first | done | with_reducible rfl | omega | (simp; done) | (simp; omega) | (simp [*]; done) | (simp [*]; omega) | exact decide_eq_false (by omega) | exact decide_eq_true (by omega)))
  refine tkA 27 ?_
  refine wpAnyH_done (by kernel_rfl) ?_ _
  have HD := Lib.hid (show Below wx.heap.size wx wx.drew from (Below.refl _ _).drew)
  obtain ⟨z1, z2, z3, z4, z5⟩ := HC.out _ (Below.refl _ _)
  go_wp2_with fail
  refine (HCON.out _ (HBX.out.trans (HD.out.mono HBX.out.size)) (HX.out.keep HD.out)).mono ?_
  rintro e w5 ⟨rfl, hp⟩
  have HP := Lib.hid hp
  clear hp z1 z2 z3 z4 z5
  go_wp2
  first | go_end0 | refine bodyPost_ret (results_none rfl _ _ _) rfl ?_
  exact ⟨rfl, HP.out⟩

set_option maxHeartbeats 8000000 in
theorem rstep_work (h : RefW w0 w r a m) (pw pm : Int) (pv : Value) (pl : List (List (List Ac))) (hpl : PlV w pv pl) {k : Nat} {t : Tx} {txs : List (List Ac)} (hk : m.T[k]? = some t) (hpk : pl[k]? = some txs) (hlt : t.tx < (txs.length : Int)) (hst : t.st = 1) (l : List Ac) (q : Nat) (hq : t.tx = (q : Int)) (hl : txs[q]? = some l)
    (hcon : ∀ W, Below w.heap.size w W → RefW w0 W r a m → ∀ av, AcV W av l → Calls Try.prog 50 #[.pointer (some ⟨r, 0, none⟩), .int .i64 (k : Int), av] W (RefP w0 r (workM l m k t))) :
    Calls Try.prog 26 #[planV pw pm pv, .pointer (some ⟨r, 0, none⟩), .int .i64 (k : Int)] w (RefP w0 r (workM l m k t)) := by
  obtain ⟨bp, op_, c, A1, d1, e0, hbp, _, hcp, hT1⟩ := hpl.at_ hpk
  subst e0
  have hkl := (List.getElem?_eq_some_iff.1 hk).1
  have hkp := (List.getElem?_eq_some_iff.1 hpk).1
  obtain ⟨np, hnp⟩ : ∃ z, z = pl.length := ⟨_, rfl⟩
  obtain ⟨n, hn⟩ : ∃ z, z = m.T.length := ⟨_, rfl⟩
  obtain ⟨nx, hnx⟩ : ∃ z, z = txs.length := ⟨_, rfl⟩
  have HNX := Lib.hid hnx
  have HN := Lib.hid hn
  have hk0 : (0 : Int) ≤ (k : Int) := by omega
  have hk1 : (k : Int) < (n : Int) := by omega
  have hk2 : (k : Int) < (np : Int) := by omega
  have hk3 : ¬ (k : Int) < 0 := by omega
  have hk4 : ¬ (n : Int) ≤ (k : Int) := by omega
  have HK := Lib.hid hk
  have hbX := Below.alloc (Below.refl w.heap.size w) (Nat.le_refl _) (.cells #[.int .i64 pw, .int .i64 pm, .slice (some ⟨bp, op_, none⟩) np c] 24)
  have kX := Blk.new_ w 24 #[.int .i64 pw, .int .i64 pm, .slice (some ⟨bp, op_, none⟩) np c] _ rfl
  have HX := Lib.hid (h.keep hbX)
  have HBX := Lib.hid hbX
  have HHT := Lib.hid h.apart.2.2.2.1
  obtain ⟨wx, hwx⟩ : ∃ z, w.alloc (.cells #[.int .i64 pw, .int .i64 pm, .slice (some ⟨bp, op_, none⟩) np c] 24) = z := ⟨_, rfl⟩
  rw [hwx] at HX HBX kX
  have HWX := Lib.hid hwx
  obtain ⟨gp, hgp⟩ : ∃ z, w.heap.size = z := ⟨_, rfl⟩
  rw [hgp] at kX
  have HGP := Lib.hid hgp
  have HKX := Lib.hid kX
  have HC := Lib.hid (fun W (hb : Below wx.heap.size wx W) => (show W.cell? ⟨r, 4, none⟩ = some (.slice (some ⟨a.gT, 0, none⟩) n a.cT) ∧ W.cell? ⟨gp, 2, none⟩ = some (.slice (some ⟨bp, op_, none⟩) np c) ∧ W.cell? ⟨bp, op_ + k, none⟩ = some (.slice A1 nx d1) ∧ W.cell? ⟨a.gT, k * 11 + 1, none⟩ = some (.int .i64 t.tx) ∧ W.cell? ⟨a.gT, k * 11, none⟩ = some (.int .i64 t.st) from
    ⟨by rw [HN.out]; exact (HX.out.keep hb).rcells 4, by rw [(HKX.out.keep hb).cell]; rfl, by rw [HNX.out]; exact ((HBX.out.trans (hb.mono HBX.out.size)).cell (p := ⟨bp, op_ + k, none⟩) hbp).trans hcp, (HX.out.keep hb).tcells (j := 1) HK.out rfl, by have := (HX.out.keep hb).tcells (j := 0) HK.out rfl; simpa using this⟩))
  have hlt' : ¬ (nx : Int) ≤ t.tx := by omega
  have HCON := Lib.hid hcon
  have HST := Lib.hid hst
  rw [hst] at HC
  obtain ⟨b3, o3, c3, A4, d4, e3, hb3, _, hc3, hL⟩ := hT1.at_ hl
  injection e3 with e3 e3n e3c
  subst e3
  have hql := (List.getElem?_eq_some_iff.1 hl).1
  have hq0 : (0 : Int) ≤ (q : Int) := by omega
  have hq1 : (q : Int) < (nx : Int) := by omega
  have HAV := Lib.hid (fun W (hb : Below w.heap.size w W) => (show AcV W (.slice A4 l.length d4) l from Sl.below hL (hb)))
  have HC3 := Lib.hid (fun W (hb : Below wx.heap.size wx W) => (show W.cell? ⟨b3, o3 + q, none⟩ = some (.slice A4 l.length d4) from ((HBX.out.trans (hb.mono HBX.out.size)).cell (p := ⟨b3, o3 + q, none⟩) hb3).trans hc3))
  rw [hq] at HC
  obtain ⟨nl, hnl⟩ : ∃ z, z = l.length := ⟨_, rfl⟩
  rw [← hnl] at HAV HC3
  rw [hq] at hlt'
  clear hL hc3 hb3 e3n e3c hl hql hnl hq
  rw [← hnp]
  clear hpl hpk hT1 h hlt hst hcon kX hbX hwx hgp hkl hkp hnp hn hnx hcp
  unfold planV
  go_enter Try.func26, Try.ntmps26
  go_upto_region 1 with fail
  rw [HWX.out, HGP.out]
  refine wp_region_held_drew (S := fun W => W.cell? ⟨r, 4, none⟩ = some (.slice (some ⟨a.gT, 0, none⟩) n a.cT) ∧ W.cell? ⟨gp, 2, none⟩ = some (.slice (some ⟨bp, op_, none⟩) np c) ∧ W.cell? ⟨bp, op_ + k, none⟩ = some (.slice (some ⟨b3, o3, none⟩) nx d1) ∧ W.cell? ⟨a.gT, k * 11 + 1, none⟩ = some (.int .i64 (q : Int)) ∧ W.cell? ⟨a.gT, k * 11, none⟩ = some (.int .i64 1)) (by kernel_rfl) ?_ (fun hir => ?_)
  · exact HC.out _ (Below.refl _ _).drew
  refine tkA 0 ?_
  refine tkA 1 (v := .bool false) ?_ (hy := by (intro w hSw; (try dsimp only at hSw); go_simp <;> first | done | with_reducible rfl | omega | (simp; done) | (simp; omega) | (simp [*]; done) | (simp [*]; omega) | exact decide_eq_false (by omega) | exact decide_eq_true (by omega)))
  refine tkA 2 ?_
  refine tkA 3 ?_
  refine tkA 4 ?_
  refine tkA 5 ?_
  refine tkA 6 ?_
  refine tkA 7 ?_
  refine tkA 8 ?_
  refine tkA 9 (v := .bool false) ?_ (hy := by (intro w hSw; (try dsimp only at hSw); go_simp <;> first | done | with_reducible rfl | omega | (simp; done) | (simp; omega) | (simp [*]; done) | (simp [*]; omega) | exact decide_eq_false (by omega) | exact decide_eq_true (by omega)))
  refine tkA 10 ?_
  refine tkA 11 ?_
  refine tkA 12 ?_
  refine tkA 13 ?_
  refine tkA 14 ?_
  refine tkA 15 ?_
  refine tkA 16 ?_
  refine tkA 17 ?_
  refine tkA 18 ?_
  refine tkA 19 ?_
  refine tkA 20 ?_
  refine tkA 21 ?_
  refine tkA 22 ?_
  refine tkA 23 ?_
  refine tkA 24 ?_
  refine tkA 25 ?_
  refine tkA 26 (v := .bool false) ?_ (hy := by (intro w hSw; (try dsimp only at hSw); go_simp <;> first | done | with_reducible rfl | omega | (simp; done) | (simp; omega) | (simp [*]; done) | (simp [*]; omega) | exact decide_eq_false (by omega) | exact decide_eq_true (by omega)))
  refine tkA 27 ?_
  refine wpAnyH_done (by kernel_rfl) ?_ _
  have HD := Lib.hid (show Below wx.heap.size wx wx.drew from (Below.refl _ _).drew)
  obtain ⟨z1, z2, z3, z4, z5⟩ := HC.out _ (Below.refl _ _)
  have zav := HC3.out _ (Below.refl _ _)
  go_upto_region 11 with fail
  refine wp_region_held_drew (S := fun W => True) (by kernel_rfl) ?_ (fun hjr => ?_)
  · trivial
  refine tkA 0 ?_
  refine tkA 1 ?_
  refine tkA 2 ?_
  refine tkA 4 ?_
  refine tkA 7 ?_
  refine tkA 8 ?_
  refine tkA 9 ?_
  refine tkA 11 ?_
  refine wpAnyH_ready (rs := [3, 10]) (by kernel_rfl) (by simp) ?_
  refine conA (fun K hK => ?_) ?_
  · go_simp
    refine hK.out _ _ ?_ (fun hjr3b9 => ?_)
    · trivial
    clear hK K hjr
    try simp only [Act.put, List.setIfInBounds_toArray, List.set_cons_zero, List.set_cons_succ]
    refine tkA 5 ?_
    refine wpAnyH_ready (rs := [6, 10]) (by kernel_rfl) (by simp) ?_
    refine conA (fun K hK => ?_) ?_
    · go_simp
      refine hK.out _ _ ?_ (fun hjr6b11 => ?_)
      · trivial
      clear hK K hjr3b9
      try simp only [Act.put, List.setIfInBounds_toArray, List.set_cons_zero, List.set_cons_succ]
      refine stA 10 (fun K hK => ?_)
      go_simp
      refine hK.out _ _ ?_ (fun hjr10b12 => ?_)
      · trivial
      clear hK K hjr6b11
      try simp only [Act.put, List.setIfInBounds_toArray, List.set_cons_zero, List.set_cons_succ]
      refine tkA 12 ?_
      refine tkA 13 ?_
      refine stA 14 (fun K hK => ?_)
      go_simp
      refine hK.out _ _ ?_ (fun hjr14b15 => ?_)
      · trivial
      clear hK K hjr10b12
      try simp only [Act.put, List.setIfInBounds_toArray, List.set_cons_zero, List.set_cons_succ]
      refine tkA 15 ?_
      refine stA 16 (fun K hK => ?_)
      go_simp
      refine hK.out _ _ ?_ (fun hjr16b17 => ?_)
      · trivial
      clear hK K hjr14b15
      try simp only [Act.put, List.setIfInBounds_toArray, List.set_cons_zero, List.set_cons_succ]
      refine stA 17 (fun K hK => ?_)
      go_simp
      refine (HCON.out _ (HBX.out.trans ((HD.out.trans ((Below.refl _ _).drew.mono HD.out.size)).mono HBX.out.size)) (HX.out.keep (HD.out.trans ((Below.refl _ _).drew.mono HD.out.size))) (.slice A4 nl d4) (HAV.out _ (HBX.out.trans ((HD.out.trans ((Below.refl _ _).drew.mono HD.out.size)).mono HBX.out.size)))).mono ?_
      rintro e w5 ⟨rfl, hp⟩
      have HP := Lib.hid hp
      clear hp
      try go_wp2_with fail
      refine hK.out _ _ ?_ (fun hjr17b18 => ?_)
      · trivial
      clear hK K hjr16b17
      try simp only [Act.put, List.setIfInBounds_toArray, List.set_cons_zero, List.set_cons_succ]
      refine wpAnyH_done (by kernel_rfl) ?_ _
      go_wp2
      first | go_end0 | refine bodyPost_ret (results_none rfl _ _ _) rfl ?_
      exact ⟨rfl, HP.out⟩
    refine conA (fun K hK => ?_) ?_
    · go_simp
      refine hK.out _ _ ?_ (fun hjr10b19 => ?_)
      · trivial
      clear hK K hjr3b9
      try simp only [Act.put, List.setIfInBounds_toArray, List.set_cons_zero, List.set_cons_succ]
      refine tkA 12 ?_
      refine tkA 13 ?_
      refine wpAnyH_ready (rs := [6, 14]) (by kernel_rfl) (by simp) ?_
      refine conA (fun K hK => ?_) ?_
      · go_simp
        refine hK.out _ _ ?_ (fun hjr6b22 => ?_)
        · trivial
        clear hK K hjr10b19
        try simp only [Act.put, List.setIfInBounds_toArray, List.set_cons_zero, List.set_cons_succ]
        refine stA 14 (fun K hK => ?_)
        go_simp
        refine hK.out _ _ ?_ (fun hjr14b23 => ?_)
        · trivial
        clear hK K hjr6b22
        try simp only [Act.put, List.setIfInBounds_toArray, List.set_cons_zero, List.set_cons_succ]
        refine tkA 15 ?_
        refine stA 16 (fun K hK => ?_)
        go_simp
        refine hK.out _ _ ?_ (fun hjr16b25 => ?_)
        · trivial
        clear hK K hjr14b23
        try simp only [Act.put, List.setIfInBounds_toArray, List.set_cons_zero, List.set_cons_succ]
        refine stA 17 (fun K hK => ?_)
        go_simp
        refine (HCON.out _ (HBX.out.trans ((HD.out.trans ((Below.refl _ _).drew.mono HD.out.size)).mono HBX.out.size)) (HX.out.keep (HD.out.trans ((Below.refl _ _).drew.mono HD.out.size))) (.slice A4 nl d4) (HAV.out _ (HBX.out.trans ((HD.out.trans ((Below.refl _ _).drew.mono HD.out.size)).mono HBX.out.size)))).mono ?_
        rintro e w5 ⟨rfl, hp⟩
        have HP := Lib.hid hp
        clear hp
        try go_wp2_with fail
        refine hK.out _ _ ?_ (fun hjr17b26 => ?_)
        · trivial
        clear hK K hjr16b25
        try simp only [Act.put, List.setIfInBounds_toArray, List.set_cons_zero, List.set_cons_succ]
        refine wpAnyH_done (by kernel_rfl) ?_ _
        go_wp2
        first | go_end0 | refine bodyPost_ret (results_none rfl _ _ _) rfl ?_
        exact ⟨rfl, HP.out⟩
      refine conA (fun K hK => ?_) ?_
      · go_simp
        refine hK.out _ _ ?_ (fun hjr14b27 => ?_)
        · trivial
        clear hK K hjr10b19
        try simp only [Act.put, List.setIfInBounds_toArray, List.set_cons_zero, List.set_cons_succ]
        refine stA 6 (fun K hK => ?_)
        go_simp
        refine hK.out _ _ ?_ (fun hjr6b28 => ?_)
        · trivial
        clear hK K hjr14b27
        try simp only [Act.put, List.setIfInBounds_toArray, List.set_cons_zero, List.set_cons_succ]
        refine tkA 15 ?_
        refine stA 16 (fun K hK => ?_)
        go_simp
        refine hK.out _ _ ?_ (fun hjr16b30 => ?_)
        · trivial
        clear hK K hjr6b28
        try simp only [Act.put, List.setIfInBounds_toArray, List.set_cons_zero, List.set_cons_succ]
        refine stA 17 (fun K hK => ?_)
        go_simp
        refine (HCON.out _ (HBX.out.trans ((HD.out.trans ((Below.refl _ _).drew.mono HD.out.size)).mono HBX.out.size)) (HX.out.keep (HD.out.trans ((Below.refl _ _).drew.mono HD.out.size))) (.slice A4 nl d4) (HAV.out _ (HBX.out.trans ((HD.out.trans ((Below.refl _ _).drew.mono HD.out.size)).mono HBX.out.size)))).mono ?_
        rintro e w5 ⟨rfl, hp⟩
        have HP := Lib.hid hp
        clear hp
        try go_wp2_with fail
        refine hK.out _ _ ?_ (fun hjr17b31 => ?_)
        · trivial
        clear hK K hjr16b30
        try simp only [Act.put, List.setIfInBounds_toArray, List.set_cons_zero, List.set_cons_succ]
        refine wpAnyH_done (by kernel_rfl) ?_ _
        go_wp2
        first | go_end0 | refine bodyPost_ret (results_none rfl _ _ _) rfl ?_
        exact ⟨rfl, HP.out⟩
      exact AllReadyH.nil
    exact AllReadyH.nil
  refine conA (fun K hK => ?_) ?_
  · go_simp
    refine hK.out _ _ ?_ (fun hjr10b32 => ?_)
    · trivial
    clear hK K hjr
    try simp only [Act.put, List.setIfInBounds_toArray, List.set_cons_zero, List.set_cons_succ]
    refine tkA 12 ?_
    refine tkA 13 ?_
    refine wpAnyH_ready (rs := [3, 14]) (by kernel_rfl) (by simp) ?_
    refine conA (fun K hK => ?_) ?_
    · go_simp
      refine hK.out _ _ ?_ (fun hjr3b35 => ?_)
      · trivial
      clear hK K hjr10b32
      try simp only [Act.put, List.setIfInBounds_toArray, List.set_cons_zero, List.set_cons_succ]
      refine tkA 5 ?_
      refine wpAnyH_ready (rs := [6, 14]) (by kernel_rfl) (by simp) ?_
      refine conA (fun K hK => ?_) ?_
      · go_simp
        refine hK.out _ _ ?_ (fun hjr6b37 => ?_)
        · trivial
        clear hK K hjr3b35
        try simp only [Act.put, List.setIfInBounds_toArray, List.set_cons_zero, List.set_cons_succ]
        refine stA 14 (fun K hK => ?_)
        go_simp
        refine hK.out _ _ ?_ (fun hjr14b38 => ?_)
        · trivial
        clear hK K hjr6b37
        try simp only [Act.put, List.setIfInBounds_toArray, List.set_cons_zero, List.set_cons_succ]
        refine tkA 15 ?_
        refine stA 16 (fun K hK => ?_)
        go_simp
        refine hK.out _ _ ?_ (fun hjr16b40 => ?_)
        · trivial
        clear hK K hjr14b38
        try simp only [Act.put, List.setIfInBounds_toArray, List.set_cons_zero, List.set_cons_succ]
        refine stA 17 (fun K hK => ?_)
        go_simp
        refine (HCON.out _ (HBX.out.trans ((HD.out.trans ((Below.refl _ _).drew.mono HD.out.size)).mono HBX.out.size)) (HX.out.keep (HD.out.trans ((Below.refl _ _).drew.mono HD.out.size))) (.slice A4 nl d4) (HAV.out _ (HBX.out.trans ((HD.out.trans ((Below.refl _ _).drew.mono HD.out.size)).mono HBX.out.size)))).mono ?_
        rintro e w5 ⟨rfl, hp⟩
        have HP := Lib.hid hp
        clear hp
        try go_wp2_with fail
        refine hK.out _ _ ?_ (fun hjr17b41 => ?_)
        · trivial
        clear hK K hjr16b40
        try simp only [Act.put, List.setIfInBounds_toArray, List.set_cons_zero, List.set_cons_succ]
        refine wpAnyH_done (by kernel_rfl) ?_ _
        go_wp2
        first | go_end0 | refine bodyPost_ret (results_none rfl _ _ _) rfl ?_
        exact ⟨rfl, HP.out⟩
      refine conA (fun K hK => ?_) ?_
      · go_simp
        refine hK.out _ _ ?_ (fun hjr14b42 => ?_)
        · trivial
        clear hK K hjr3b35
        try simp only [Act.put, List.setIfInBounds_toArray, List.set_cons_zero, List.set_cons_succ]
        refine stA 6 (fun K hK => ?_)
        go_simp
        refine hK.out _ _ ?_ (fun hjr6b43 => ?_)
        · trivial
        clear hK K hjr14b42
        try simp only [Act.put, List.setIfInBounds_toArray, List.set_cons_zero, List.set_cons_succ]
        refine tkA 15 ?_
        refine stA 16 (fun K hK => ?_)
        go_simp
        refine hK.out _ _ ?_ (fun hjr16b45 => ?_)
        · trivial
        clear hK K hjr6b43
        try simp only [Act.put, List.setIfInBounds_toArray, List.set_cons_zero, List.set_cons_succ]
        refine stA 17 (fun K hK => ?_)
        go_simp
        refine (HCON.out _ (HBX.out.trans ((HD.out.trans ((Below.refl _ _).drew.mono HD.out.size)).mono HBX.out.size)) (HX.out.keep (HD.out.trans ((Below.refl _ _).drew.mono HD.out.size))) (.slice A4 nl d4) (HAV.out _ (HBX.out.trans ((HD.out.trans ((Below.refl _ _).drew.mono HD.out.size)).mono HBX.out.size)))).mono ?_
        rintro e w5 ⟨rfl, hp⟩
        have HP := Lib.hid hp
        clear hp
        try go_wp2_with fail
        refine hK.out _ _ ?_ (fun hjr17b46 => ?_)
        · trivial
        clear hK K hjr16b45
        try simp only [Act.put, List.setIfInBounds_toArray, List.set_cons_zero, List.set_cons_succ]
        refine wpAnyH_done (by kernel_rfl) ?_ _
        go_wp2
        first | go_end0 | refine bodyPost_ret (results_none rfl _ _ _) rfl ?_
        exact ⟨rfl, HP.out⟩
      exact AllReadyH.nil
    refine conA (fun K hK => ?_) ?_
    · go_simp
      refine hK.out _ _ ?_ (fun hjr14b47 => ?_)
      · trivial
      clear hK K hjr10b32
      try simp only [Act.put, List.setIfInBounds_toArray, List.set_cons_zero, List.set_cons_succ]
      refine stA 3 (fun K hK => ?_)
      go_simp
      refine hK.out _ _ ?_ (fun hjr3b48 => ?_)
      · trivial
      clear hK K hjr14b47
      try simp only [Act.put, List.setIfInBounds_toArray, List.set_cons_zero, List.set_cons_succ]
      refine tkA 5 ?_
      refine stA 6 (fun K hK => ?_)
      go_simp
      refine hK.out _ _ ?_ (fun hjr6b50 => ?_)
      · trivial
      clear hK K hjr3b48
      try simp only [Act.put, List.setIfInBounds_toArray, List.set_cons_zero, List.set_cons_succ]
      refine tkA 15 ?_
      refine stA 16 (fun K hK => ?_)
      go_simp
      refine hK.out _ _ ?_ (fun hjr16b52 => ?_)
      · trivial
      clear hK K hjr6b50
      try simp only [Act.put, List.setIfInBounds_toArray, List.set_cons_zero, List.set_cons_succ]
      refine stA 17 (fun K hK => ?_)
      go_simp
      refine (HCON.out _ (HBX.out.trans ((HD.out.trans ((Below.refl _ _).drew.mono HD.out.size)).mono HBX.out.size)) (HX.out.keep (HD.out.trans ((Below.refl _ _).drew.mono HD.out.size))) (.slice A4 nl d4) (HAV.out _ (HBX.out.trans ((HD.out.trans ((Below.refl _ _).drew.mono HD.out.size)).mono HBX.out.size)))).mono ?_
      rintro e w5 ⟨rfl, hp⟩
      have HP := Lib.hid hp
      clear hp
      try go_wp2_with fail
      refine hK.out _ _ ?_ (fun hjr17b53 => ?_)
      · trivial
      clear hK K hjr16b52
      try simp only [Act.put, List.setIfInBounds_toArray, List.set_cons_zero, List.set_cons_succ]
      refine wpAnyH_done (by kernel_rfl) ?_ _
      go_wp2
      first | go_end0 | refine bodyPost_ret (results_none rfl _ _ _) rfl ?_
      exact ⟨rfl, HP.out⟩
    exact AllReadyH.nil
  exact AllReadyH.nil

set_option maxHeartbeats 8000000 in
theorem rstep_begin (h : RefW w0 w r a m) (pw pm : Int) (pv : Value) (pl : List (List (List Ac))) (hpl : PlV w pv pl) {k : Nat} {t : Tx} {txs : List (List Ac)} (hk : m.T[k]? = some t) (hpk : pl[k]? = some txs) (hlt : t.tx < (txs.length : Int)) (hst : t.st = 0) (htry : 0 ≤ t.try_ ∧ t.try_ ≤ 3)
    (hcon : ∀ W, Below w.heap.size w W → RefW w0 W r a m → True) :
    Calls Try.prog 26 #[planV pw pm pv, .pointer (some ⟨r, 0, none⟩), .int .i64 (k : Int)] w (RefP w0 r (beginM m k t)) := by
  obtain ⟨bp, op_, c, A1, d1, e0, hbp, _, hcp, hT1⟩ := hpl.at_ hpk
  subst e0
  have hkl := (List.getElem?_eq_some_iff.1 hk).1
  have hkp := (List.getElem?_eq_some_iff.1 hpk).1
  obtain ⟨np, hnp⟩ : ∃ z, z = pl.length := ⟨_, rfl⟩
  obtain ⟨n, hn⟩ : ∃ z, z = m.T.length := ⟨_, rfl⟩
  obtain ⟨nx, hnx⟩ : ∃ z, z = txs.length := ⟨_, rfl⟩
  have HNX := Lib.hid hnx
  have HN := Lib.hid hn
  have hk0 : (0 : Int) ≤ (k : Int) := by omega
  have hk1 : (k : Int) < (n : Int) := by omega
  have hk2 : (k : Int) < (np : Int) := by omega
  have hk3 : ¬ (k : Int) < 0 := by omega
  have hk4 : ¬ (n : Int) ≤ (k : Int) := by omega
  have HK := Lib.hid hk
  have hbX := Below.alloc (Below.refl w.heap.size w) (Nat.le_refl _) (.cells #[.int .i64 pw, .int .i64 pm, .slice (some ⟨bp, op_, none⟩) np c] 24)
  have kX := Blk.new_ w 24 #[.int .i64 pw, .int .i64 pm, .slice (some ⟨bp, op_, none⟩) np c] _ rfl
  have HX := Lib.hid (h.keep hbX)
  have HBX := Lib.hid hbX
  have HHT := Lib.hid h.apart.2.2.2.1
  obtain ⟨wx, hwx⟩ : ∃ z, w.alloc (.cells #[.int .i64 pw, .int .i64 pm, .slice (some ⟨bp, op_, none⟩) np c] 24) = z := ⟨_, rfl⟩
  rw [hwx] at HX HBX kX
  have HWX := Lib.hid hwx
  obtain ⟨gp, hgp⟩ : ∃ z, w.heap.size = z := ⟨_, rfl⟩
  rw [hgp] at kX
  have HGP := Lib.hid hgp
  have HKX := Lib.hid kX
  have HC := Lib.hid (fun W (hb : Below wx.heap.size wx W) => (show W.cell? ⟨r, 4, none⟩ = some (.slice (some ⟨a.gT, 0, none⟩) n a.cT) ∧ W.cell? ⟨gp, 2, none⟩ = some (.slice (some ⟨bp, op_, none⟩) np c) ∧ W.cell? ⟨bp, op_ + k, none⟩ = some (.slice A1 nx d1) ∧ W.cell? ⟨a.gT, k * 11 + 1, none⟩ = some (.int .i64 t.tx) ∧ W.cell? ⟨a.gT, k * 11, none⟩ = some (.int .i64 t.st) from
    ⟨by rw [HN.out]; exact (HX.out.keep hb).rcells 4, by rw [(HKX.out.keep hb).cell]; rfl, by rw [HNX.out]; exact ((HBX.out.trans (hb.mono HBX.out.size)).cell (p := ⟨bp, op_ + k, none⟩) hbp).trans hcp, (HX.out.keep hb).tcells (j := 1) HK.out rfl, by have := (HX.out.keep hb).tcells (j := 0) HK.out rfl; simpa using this⟩))
  have hlt' : ¬ (nx : Int) ≤ t.tx := by omega
  have HCON := Lib.hid hcon
  have HST := Lib.hid hst
  rw [hst] at HC
  rw [← hnp]
  clear hpl hpk hT1 h hlt hst hcon kX hbX hwx hgp hkl hkp hnp hn hnx hcp
  unfold planV
  go_enter Try.func26, Try.ntmps26
  go_upto_region 1 with fail
  rw [HWX.out, HGP.out]
  refine wp_region_held_drew (S := fun W => W.cell? ⟨r, 4, none⟩ = some (.slice (some ⟨a.gT, 0, none⟩) n a.cT) ∧ W.cell? ⟨gp, 2, none⟩ = some (.slice (some ⟨bp, op_, none⟩) np c) ∧ W.cell? ⟨bp, op_ + k, none⟩ = some (.slice A1 nx d1) ∧ W.cell? ⟨a.gT, k * 11 + 1, none⟩ = some (.int .i64 t.tx) ∧ W.cell? ⟨a.gT, k * 11, none⟩ = some (.int .i64 0)) (by kernel_rfl) ?_ (fun hkr => ?_)
  · exact HC.out _ (Below.refl _ _).drew
  refine tkA 0 ?_
  refine tkA 1 (v := .bool false) ?_ (hy := by (intro w hSw; (try dsimp only at hSw); go_simp <;> first | done | with_reducible rfl | omega | (simp; done) | (simp; omega) | (simp [*]; done) | (simp [*]; omega) | exact decide_eq_false (by omega) | exact decide_eq_true (by omega)))
  refine tkA 2 ?_
  refine tkA 3 ?_
  refine tkA 4 ?_
  refine tkA 5 ?_
  refine tkA 6 ?_
  refine tkA 7 ?_
  refine tkA 8 ?_
  refine tkA 9 (v := .bool false) ?_ (hy := by (intro w hSw; (try dsimp only at hSw); go_simp <;> first | done | with_reducible rfl | omega | (simp; done) | (simp; omega) | (simp [*]; done) | (simp [*]; omega) | exact decide_eq_false (by omega) | exact decide_eq_true (by omega)))
  refine tkA 10 ?_
  refine tkA 11 ?_
  refine tkA 12 ?_
  refine tkA 13 ?_
  refine tkA 14 ?_
  refine tkA 15 ?_
  refine tkA 16 ?_
  refine tkA 17 ?_
  refine tkA 18 ?_
  refine tkA 19 ?_
  refine tkA 20 ?_
  refine tkA 21 ?_
  refine tkA 22 ?_
  refine tkA 23 ?_
  refine tkA 24 ?_
  refine tkA 25 ?_
  refine tkA 26 (v := .bool false) ?_ (hy := by (intro w hSw; (try dsimp only at hSw); go_simp <;> first | done | with_reducible rfl | omega | (simp; done) | (simp; omega) | (simp [*]; done) | (simp [*]; omega) | exact decide_eq_false (by omega) | exact decide_eq_true (by omega)))
  refine tkA 27 ?_
  refine wpAnyH_done (by kernel_rfl) ?_ _
  have HD := Lib.hid (show Below wx.heap.size wx wx.drew from (Below.refl _ _).drew)
  obtain ⟨z1, z2, z3, z4, z5⟩ := HC.out _ (Below.refl _ _)
  have hwr : IntKind.i64.wrap (t.try_ + 1) = t.try_ + 1 := by rw [IntKind.wrap_i64]; omega
  have u1 : wx.cell? ⟨r, 1, none⟩ = some (.int .i64 m.now) := HX.out.rcells 1
  have u6 : wx.cell? ⟨r, 6, none⟩ = some (.int .i64 m.time) := HX.out.rcells 6
  have url := HX.out.run.lt
  have t2_ := HX.out.tcells (j := 2) HK.out rfl
  have t3_ := HX.out.tcells (j := 3) HK.out rfl
  have t4_ := HX.out.tcells (j := 4) HK.out rfl
  have t5_ := HX.out.tcells (j := 5) HK.out rfl
  have t6_ := HX.out.tcells (j := 6) HK.out rfl
  have t7_ := HX.out.tcells (j := 7) HK.out rfl
  have t8_ := HX.out.tcells (j := 8) HK.out rfl
  have t9_ := HX.out.tcells (j := 9) HK.out rfl
  have t10_ := HX.out.tcells (j := 10) HK.out rfl
  have utl := HX.out.apart.2.2.2.1
  go_upto_region 9 with fail
  clear hwr u1 u6 url utl z1 z2 z3 z4 z5 t2_ t3_ t4_ t5_ t6_ t7_ t8_ t9_ t10_
  have kB := (Blk.new_ wx 46 #[.int .i64 1, .int .i64 t.tx, .int .i64 (t.try_ + 1), .int .i64 t.pc, .int .i64 m.now, .int .i64 t.wv, .int .i64 t.sum, .slice t.rA t.R.length t.rc, .slice t.wA t.W.length t.wc, .int .i64 t.i, .int .i64 m.time] _ rfl).drew
  have hbB : Below wx.heap.size wx (wx.alloc (.cells #[.int .i64 1, .int .i64 t.tx, .int .i64 (t.try_ + 1), .int .i64 t.pc, .int .i64 m.now, .int .i64 t.wv, .int .i64 t.sum, .slice t.rA t.R.length t.rc, .slice t.wA t.W.length t.wc, .int .i64 t.i, .int .i64 m.time] 46)).drew := ((Below.refl _ _).alloc (Nat.le_refl _) _).drew
  obtain ⟨w9, hw9⟩ : ∃ z, (wx.alloc (.cells #[.int .i64 1, .int .i64 t.tx, .int .i64 (t.try_ + 1), .int .i64 t.pc, .int .i64 m.now, .int .i64 t.wv, .int .i64 t.sum, .slice t.rA t.R.length t.rc, .slice t.wA t.W.length t.wc, .int .i64 t.i, .int .i64 m.time] 46)).drew = z := ⟨_, rfl⟩
  rw [hw9] at kB hbB ⊢
  obtain ⟨gx, hgx⟩ : ∃ z, wx.heap.size = z := ⟨_, rfl⟩
  rw [hgx] at kB ⊢
  have HLT := Lib.hid (show a.gT < gx from by have := HX.out.apart.2.2.2.1; omega)
  have H9 := Lib.hid (HX.out.keep hbB)
  have K9 := Lib.hid kB
  have HPR := Lib.hid (fun W (h : RefW w0 W r a m) => h.ts HK.out)
  clear hw9 kB hbB hgx
  have r4 : w9.cell? ⟨r, 4, none⟩ = some (.slice (some ⟨a.gT, 0, none⟩) n a.cT) := by rw [HN.out]; exact H9.out.rcells 4
  have y0 : w9.cell? ⟨gx, 0, none⟩ = some (.int .i64 1) := by rw [K9.out.cell]; rfl
  have y1 : w9.cell? ⟨gx, 1, none⟩ = some (.int .i64 t.tx) := by rw [K9.out.cell]; rfl
  have y2 : w9.cell? ⟨gx, 2, none⟩ = some (.int .i64 (t.try_ + 1)) := by rw [K9.out.cell]; rfl
  have y3 : w9.cell? ⟨gx, 3, none⟩ = some (.int .i64 t.pc) := by rw [K9.out.cell]; rfl
  have y4 : w9.cell? ⟨gx, 4, none⟩ = some (.int .i64 m.now) := by rw [K9.out.cell]; rfl
  have y5 : w9.cell? ⟨gx, 5, none⟩ = some (.int .i64 t.wv) := by rw [K9.out.cell]; rfl
  have y6 : w9.cell? ⟨gx, 6, none⟩ = some (.int .i64 t.sum) := by rw [K9.out.cell]; rfl
  have y7 : w9.cell? ⟨gx, 7, none⟩ = some (.slice t.rA t.R.length t.rc) := by rw [K9.out.cell]; rfl
  have y8 : w9.cell? ⟨gx, 8, none⟩ = some (.slice t.wA t.W.length t.wc) := by rw [K9.out.cell]; rfl
  have y9 : w9.cell? ⟨gx, 9, none⟩ = some (.int .i64 t.i) := by rw [K9.out.cell]; rfl
  have y10 : w9.cell? ⟨gx, 10, none⟩ = some (.int .i64 m.time) := by rw [K9.out.cell]; rfl
  have HFR := Lib.hid (fun W (hb : w9.drew.grownBy W (some a.gT)) => (show Blk W gx 46 #[.int .i64 1, .int .i64 t.tx, .int .i64 (t.try_ + 1), .int .i64 t.pc, .int .i64 m.now, .int .i64 t.wv, .int .i64 t.sum, .slice t.rA t.R.length t.rc, .slice t.wA t.W.length t.wc, .int .i64 t.i, .int .i64 m.time] from (K9.out.drew).grown hb (by intro e; injection e with e; have := HLT.out; omega)))
  refine wp_region_held_drew (S := fun W => W.cell? ⟨r, 4, none⟩ = some (.slice (some ⟨a.gT, 0, none⟩) n a.cT) ∧ W.cell? ⟨gx, 0, none⟩ = some (.int .i64 1) ∧ W.cell? ⟨gx, 1, none⟩ = some (.int .i64 t.tx) ∧ W.cell? ⟨gx, 2, none⟩ = some (.int .i64 (t.try_ + 1)) ∧ W.cell? ⟨gx, 3, none⟩ = some (.int .i64 t.pc) ∧ W.cell? ⟨gx, 4, none⟩ = some (.int .i64 m.now) ∧ W.cell? ⟨gx, 5, none⟩ = some (.int .i64 t.wv) ∧ W.cell? ⟨gx, 6, none⟩ = some (.int .i64 t.sum) ∧ W.cell? ⟨gx, 7, none⟩ = some (.slice t.rA t.R.length t.rc) ∧ W.cell? ⟨gx, 8, none⟩ = some (.slice t.wA t.W.length t.wc) ∧ W.cell? ⟨gx, 9, none⟩ = some (.int .i64 t.i) ∧ W.cell? ⟨gx, 10, none⟩ = some (.int .i64 m.time)) (by kernel_rfl) ?_ (fun hlr => ?_)
  · exact ⟨r4, y0, y1, y2, y3, y4, y5, y6, y7, y8, y9, y10⟩
  refine tkA 0 ?_
  refine tkA 1 ?_
  refine tkA 2 ?_
  refine tkA 3 ?_
  refine tkA 4 ?_
  refine tkA 5 ?_
  refine tkA 6 ?_
  refine stA 7 (fun K hK => ?_)
  refine step_rstore_tx (H9.out.keep (Below.refl _ _).drew) HK.out { t with try_ := t.try_ + 1, rv := m.now, fr := m.time, st := 1 } ?hpr _ _ (by rfl) rfl rfl (by rfl) ?_
  case hpr => exact HPR.out _ (H9.out.keep (Below.refl _ _).drew)
  intro w2 hR2 hg2
  have HR2 := Lib.hid hR2
  have HF2 := Lib.hid (HFR.out _ hg2)
  clear hR2 hg2
  refine hK.out _ _ ?_ (fun hlr7 => ?_)
  · exact ⟨by rw [HN.out]; have := HR2.out.rcells 4; simpa [memCells] using this, by rw [HF2.out.cell]; rfl, by rw [HF2.out.cell]; rfl, by rw [HF2.out.cell]; rfl, by rw [HF2.out.cell]; rfl, by rw [HF2.out.cell]; rfl, by rw [HF2.out.cell]; rfl, by rw [HF2.out.cell]; rfl, by rw [HF2.out.cell]; rfl, by rw [HF2.out.cell]; rfl, by rw [HF2.out.cell]; rfl, by rw [HF2.out.cell]; rfl⟩
  clear hK K hlr
  try simp only [Act.put, List.setIfInBounds_toArray, List.set_cons_zero, List.set_cons_succ]
  refine wpAnyH_done (by kernel_rfl) ?_ _
  go_wp2
  first | go_end0 | refine bodyPost_ret (results_none rfl _ _ _) rfl ?_
  exact ⟨rfl, _, _, HR2.out, rfl⟩

theorem rstep_any {words : Nat} {mx : Int} {pl : List (List (List Ac))} (h : RefW w0 w r a m) (pw pm : Int) (pv : Value) (hpl : PlV w pv pl) (hp : PlanOk words mx pl) (hg : Good words pl m) (hH : m.H.length ≤ 1000) (who : Int) :
    Calls Try.prog 26 #[planV pw pm pv, .pointer (some ⟨r, 0, none⟩), .int .i64 who] w (RefP w0 r (stepM pl m who)) := by
  by_cases h0 : who < 0
  · exact rstep_none h pw pm pv pl hpl who (.inl h0) hg.T
  by_cases h1 : (m.T.length : Int) ≤ who
  · exact rstep_none h pw pm pv pl hpl who (.inr h1) hg.T
  obtain ⟨k, rfl⟩ : ∃ k : Nat, who = (k : Int) := ⟨who.toNat, by omega⟩
  have hkT : k < m.T.length := by omega
  have hkp : k < pl.length := by rw [← hg.T]; exact hkT
  obtain ⟨t, hk⟩ : ∃ t, m.T[k]? = some t := ⟨_, List.getElem?_eq_getElem hkT⟩
  obtain ⟨txs, hpk⟩ : ∃ t, pl[k]? = some t := ⟨_, List.getElem?_eq_getElem hkp⟩
  have gt := hg.ts k t txs hk hpk
  have hmem : txs ∈ pl := List.mem_of_getElem? hpk
  have ht4 := hp.tx4 txs hmem
  have hx0 := gt.x0
  have hx1 := gt.x1
  have hk4 : k < 4 := by have := hp.p4; omega
  have htx : 0 ≤ t.tx ∧ t.tx ≤ 1000 := by omega
  have hsk : stepM pl m (k : Int) = if t.tx < (txs.length : Int) then doM txs m k t else m := by
    unfold stepM
    rw [if_pos (by omega), Int.toNat_natCast]
    unfold stepK
    rw [hk, hpk]
  rw [hsk]
  by_cases hlt : t.tx < (txs.length : Int)
  case neg =>
    rw [if_neg hlt]
    refine (rstep_over h pw pm pv pl hpl hk hpk (by omega)).mono ?_
    rintro e w' ⟨rfl, h2⟩
    exact ⟨rfl, _, _, h2, rfl⟩
  rw [if_pos hlt]
  have hs0 := gt.s0
  have hs5 := gt.s5
  unfold doM
  by_cases e0 : t.st = 0
  · rw [if_pos e0]
    exact rstep_begin h pw pm pv pl hpl hk hpk hlt e0 ⟨gt.y0, gt.y3⟩ (fun _ _ _ => trivial)
  rw [if_neg e0]
  by_cases e1 : t.st = 1
  · rw [if_pos e1]
    obtain ⟨q, hq⟩ : ∃ q : Nat, t.tx = (q : Int) := ⟨t.tx.toNat, by omega⟩
    have hql : q < txs.length := by omega
    have hl := List.getElem?_eq_getElem hql
    have hgd : txs.getD t.tx.toNat [] = txs[q] := by rw [hq, Int.toNat_natCast, List.getD_eq_getElem?_getD, hl]; rfl
    rw [hgd]
    have hml : txs[q] ∈ txs := List.getElem_mem hql
    exact rstep_work h pw pm pv pl hpl hk hpk hlt e1 _ q hq hl (fun W hb hW av hav => rwork_any hW hk hg gt hH htx av _ hav (by have := hp.ac6 txs hmem _ hml; omega) (fun x hx => hp.acs txs hmem _ hml x hx))
  rw [if_neg e1]
  by_cases e2 : t.st = 2
  · rw [if_pos e2]
    exact rstep_hold h pw pm pv pl hpl hk hpk hlt e2 (fun W hb hW => rhold_any hW hk hg gt e2 hk4 hH htx)
  rw [if_neg e2]
  by_cases e3 : t.st = 3
  · rw [if_pos e3]
    exact rstep_tick h pw pm pv pl hpl hk hpk hlt e3 (fun W hb hW => rtick_any (txs := txs) hW hk hg hk4 hH htx)
  rw [if_neg e3]
  by_cases e4 : t.st = 4
  · rw [if_pos e4]
    exact rstep_check h pw pm pv pl hpl hk hpk hlt e4 (fun W hb hW => rcheck_any hW hk hg gt hk4 hH htx)
  rw [if_neg e4]
  exact rstep_back h pw pm pv pl hpl hk hpk hlt (by omega) (fun W hb hW => rback_any hW hk hg gt (by omega) htx)

end
end Go.Proofs.Ytngimbfojccikaa
