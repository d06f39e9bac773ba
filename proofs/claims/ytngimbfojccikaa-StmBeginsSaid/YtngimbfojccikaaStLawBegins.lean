/- StmBegins: printed by st_begins.py. -/
import Derived.Test.YtngimbfojccikaaStLawOrder
namespace Go.Proofs.Ytngimbfojccikaa
set_option linter.unusedSimpArgs false
open Go Go.RowKit
set_option linter.unusedVariables false

theorem begins_er {words : Nat} {mx : Int} {pl : List (List (List Ac))} {m m2 : Mm} {l : List Int} (h : m.er = (runM words mx pl []).er) (h2 : m2.er = (runM words mx pl l).er) (hl : ∀ q ∈ l, (pl.length : Int) ≤ q) : memEq { m2 with time := 0 } m = true := by
  rw [memEq_iff]
  have e1 : ({ m2 with time := 0 } : Mm).er = { m2.er with time := 0 } := rfl
  have e2 := run_none (pl := pl) l (initM words mx pl.length) (fun q hq => by
    have : (initM words mx pl.length).T.length = pl.length := List.length_replicate
    rw [this]; exact hl q hq)
  rw [e1, h2, h]
  have e3 := congrArg Mm.er e2
  exact e3
theorem begins_init {words : Nat} {mx : Int} {pl : List (List (List Ac))} {m : Mm} (h : m.er = (runM words mx pl []).er) : m.H = [] ∧ m.time = 0 ∧ ∀ t ∈ m.T, t.st = 0 ∧ t.tx = 0 ∧ t.R = [] ∧ t.W = [] := by
  refine ⟨?_, ?_, fun t ht => ?_⟩
  · have : m.er.H = [] := by rw [h]; rfl
    exact List.map_eq_nil_iff.1 this
  · exact (show m.er.time = 0 by rw [h]; rfl)
  · obtain ⟨i, hi, rfl⟩ := List.getElem_of_mem ht
    obtain ⟨u, hu, e⟩ := memer_T h (List.getElem?_eq_getElem hi)
    have hu2 : u = Tx.zero := by
      have := List.mem_of_getElem? hu
      exact List.eq_of_mem_replicate this
    subst hu2
    refine ⟨?_, ?_, ?_, ?_⟩
    · have := congrArg Tx.st e; exact this.symm
    · have := congrArg Tx.tx e; exact this.symm
    · have := congrArg Tx.R e; exact this.symm
    · have := congrArg Tx.W e; exact this.symm

set_option maxRecDepth 100000 in
set_option maxHeartbeats 16000000 in
theorem stmBegins_walk (w : World) (words mx : Int) (pv : Value) (pl : List (List (List Ac))) (hpl : PlV w pv pl) (ww : okI words) (wm : okI mx) (kv : Value) (picks : List Int) (hkv : Sl w 1 kv picks.length (picks.flatMap encI)) (hok : ∀ q ∈ picks, okI q) :
    Calls Try.prog 9 #[planV words mx pv, kv] w fun e w' => e = .returned (.bool true) ∧ Below w.heap.size w w' := by
  obtain ⟨A, c, rfl, _, _⟩ := hpl.form
  obtain ⟨kA, kc, rfl, _, _⟩ := hkv.form
  have kP := Blk.new_ w 24 #[.int .i64 words, .int .i64 mx, .slice A pl.length c] _ rfl
  have bP : Below w.heap.size w (w.alloc (.cells #[.int .i64 words, .int .i64 mx, .slice A pl.length c] 24)) := (Below.refl _ w).alloc (Nat.le_refl _) _
  obtain ⟨w1, hw1⟩ : ∃ z, w.alloc (.cells #[.int .i64 words, .int .i64 mx, .slice A pl.length c] 24) = z := ⟨_, rfl⟩
  rw [hw1] at kP bP
  have HB1 := Lib.hid bP
  have HP := Lib.hid (fun W (hb : Below w1.heap.size w1 W) => (show W.cell? ⟨w.heap.size, 0, none⟩ = some (.int .i64 words) ∧ W.cell? ⟨w.heap.size, 1, none⟩ = some (.int .i64 mx) ∧ W.cell? ⟨w.heap.size, 2, none⟩ = some (.slice A pl.length c) from ⟨by rw [(kP.keep hb).cell]; rfl, by rw [(kP.keep hb).cell]; rfl, by rw [(kP.keep hb).cell]; rfl⟩))
  have HPV := Lib.hid (fun W (hb : Below w1.heap.size w1 W) => (hpl.below bP).below hb)
  have HKV := Lib.hid (fun W (hb : Below w1.heap.size w1 W) => (hkv.below bP).below hb)
  have HF := Lib.hid (fun W (hb : Below w1.heap.size w1 W) => few19_any words mx pl _ kA picks.length kc W (HPV.out W hb))
  have HRN := Lib.hid (fun (h : mayP words mx pl = false) v W (hb : Below w1.heap.size w1 W) => run_no words mx pl _ v W (HPV.out W hb) h)
  have HRY := Lib.hid (fun (wn : Nat) (hw : words = (wn : Int)) (h : mayP words mx pl = true) v (l : List Int) (hl : l.length ≤ 900) W (hb : Below w1.heap.size w1 W) (hv : Sl W 1 v l.length (l.flatMap encI)) => (show Calls Try.prog 12 #[planV words mx (.slice A pl.length c), v] W (RunPost W (runM wn mx pl l)) from by subst hw; exact run_yes wn mx pl _ v l W (HPV.out W hb) hv h hl))
  have HW1 := Lib.hid hw1
  obtain ⟨n, hn⟩ : ∃ n, n = pl.length := ⟨_, rfl⟩
  obtain ⟨np, hnp⟩ : ∃ n, n = picks.length := ⟨_, rfl⟩
  have HN := Lib.hid hn
  have HNP := Lib.hid hnp
  have HOK := Lib.hid hok
  have HWW := Lib.hid (And.intro ww wm)
  rw [← hn] at HP HRN HRY HW1 HF
  rw [← hnp] at HF
  rw [← hn, ← hnp]
  clear kP bP hw1 hpl hkv hn hnp hok ww wm
  simp only [planV] at HF HRN HRY ⊢
  go_enter Try.func9, Try.ntmps9
  go_upto_region 1 with fail
  rw [HW1.out]
  go_wp2_with fail
  refine (awake_any _).mono ?_
  rintro e w2 ⟨rfl, hb2⟩
  have HB2 := Lib.hid hb2
  obtain ⟨p0, p1, p2⟩ := HP.out _ hb2
  clear hb2
  go_wp2_with fail
  refine (HF.out _ HB2.out).mono ?_
  rintro e w3 ⟨fb, rfl, hfew, hb3⟩
  have HB3 := Lib.hid (HB2.out.trans (hb3.mono HB2.out.size))
  clear p0 p1 p2 hb3
  cases fb with
  | false =>
    clear hfew
    go_wp2_with fail
    go_ret
    exact ⟨rfl, HB1.out.trans (HB3.out.mono HB1.out.size)⟩
  | true =>
  have hf := hfew rfl
  have HFW := Lib.hid hf
  clear hfew hf
  obtain ⟨p0, p1, p2⟩ := HP.out _ HB3.out
  cases hmay : mayP words mx pl with
  | false =>
    go_wp2_with fail
    refine (HRN.out hmay _ _ HB3.out).mono ?_
    rintro e w4 ⟨rfl, hb4⟩
    have HB4 := Lib.hid (HB3.out.trans (hb4.mono HB3.out.size))
    clear p0 p1 p2 hb4
    obtain ⟨p0, p1, p2⟩ := HP.out _ HB4.out
    have HMC := Lib.hid (fun W (hb : Below w1.heap.size w1 W) => may_any words mx pl _ W (HPV.out W hb))
    rw [hmay] at HMC
    simp only [planV] at HMC
    rw [← HN.out] at HMC
    obtain ⟨w5, hw5⟩ : ∃ z, w4.alloc (.cells #[.slice none 0 0, .int .i64 0, .int .i64 0, .slice none 0 0, .slice none 0 0, .slice none 0 0, .int .i64 0] 34) = z := ⟨_, rfl⟩
    have HB5 := Lib.hid (show Below w1.heap.size w1 w5 from hw5 ▸ HB4.out.alloc HB4.out.size _)
    have HW5 := Lib.hid hw5
    clear hw5
    clear p0 p1 p2
    go_upto_region 6 with fail
    rw [HW5.out]
    obtain ⟨p0, p1, p2⟩ := HP.out _ HB5.out
    go_wp2_with fail
    refine (HMC.out _ HB5.out).mono ?_
    rintro e w6 ⟨rfl, hb6⟩
    have HB6 := Lib.hid (HB5.out.trans (hb6.mono HB5.out.size))
    clear hb6 p0 p1 p2
    go_wp2_with fail
    go_ret
    exact ⟨rfl, HB1.out.trans (HB6.out.mono HB1.out.size)⟩
  | true =>
  obtain ⟨wn, hwn, hPO⟩ := planOk_of hmay
  have HPO := Lib.hid hPO
  have HWN := Lib.hid hwn
  have HMAY := Lib.hid hmay
  clear hwn hPO hmay
  go_wp2_with fail
  refine (HRY.out wn HWN.out HMAY.out (.slice none 0 0) [] (by simp) _ HB3.out (Sl.nil _ _)).mono ?_
  rintro e w4 ⟨a, m, rfl, hm, her, hb4⟩
  have HB4 := Lib.hid (HB3.out.trans (hb4.mono HB3.out.size))
  have HER := Lib.hid her
  have HRG := Lib.hid (good_run HPO.out [])
  have HGO := Lib.hid (show Good wn pl m from good_er (by rw [her]; exact good_er2 HRG.out.1))
  have HTM := Lib.hid (show m.time = ([].length : Int) from by have e1 : m.er.time = m.time := rfl; have e2 : (runM wn mx pl []).er.time = (runM wn mx pl []).time := rfl; rw [← e1, her, e2]; exact HRG.out.2)
  clear p0 p1 p2 hb4 her
  have kM := Blk.new_ w4 34 (memCells a m).toArray _ rfl
  obtain ⟨w5, hw5⟩ : ∃ z, w4.alloc (.cells (memCells a m).toArray 34) = z := ⟨_, rfl⟩
  have HM := Lib.hid (hm.below (show Below w4.heap.size w4 w5 from hw5 ▸ (Below.refl _ _).alloc (Nat.le_refl _) _))
  have HB5 := Lib.hid (show Below w1.heap.size w1 w5 from hw5 ▸ HB4.out.alloc HB4.out.size _)
  rw [hw5] at kM
  have HKM := Lib.hid kM
  have HG := Lib.hid (fun W (hb : Below w5.heap.size w5 W) => (show W.cell? ⟨w4.heap.size, 0, none⟩ = some (.slice (some ⟨a.gW, 0, none⟩) m.W.length a.cW) ∧ W.cell? ⟨w4.heap.size, 1, none⟩ = some (.int .i64 m.now) ∧ W.cell? ⟨w4.heap.size, 2, none⟩ = some (.int .i64 m.mx) ∧ W.cell? ⟨w4.heap.size, 3, none⟩ = some (.slice a.lA m.L.length a.lc) ∧ W.cell? ⟨w4.heap.size, 4, none⟩ = some (.slice (some ⟨a.gT, 0, none⟩) m.T.length a.cT) ∧ W.cell? ⟨w4.heap.size, 5, none⟩ = some (.slice a.hA m.H.length a.hc) ∧ W.cell? ⟨w4.heap.size, 6, none⟩ = some (.int .i64 m.time) from
    ⟨by rw [(kM.keep hb).cell]; rfl, by rw [(kM.keep hb).cell]; rfl, by rw [(kM.keep hb).cell]; rfl, by rw [(kM.keep hb).cell]; rfl, by rw [(kM.keep hb).cell]; rfl, by rw [(kM.keep hb).cell]; rfl, by rw [(kM.keep hb).cell]; rfl⟩))
  have HW5 := Lib.hid hw5
  clear hm kM hw5
  simp only [memCells] at HW5 ⊢
  go_upto_region 6 with fail
  rw [HW5.out]
  obtain ⟨hH0, hM0, hTz⟩ := begins_init HER.out
  have HTZ := Lib.hid hTz
  have HAL := Lib.hid HM.out
  have hTn : m.T.length = n := by rw [HGO.out.T, HN.out]
  have hWn : m.W.length = wn := HGO.out.W
  have hHn : m.H.length = 0 := by rw [hH0]; rfl
  have HTC := Lib.hid (fun (k : Nat) (hk : k < n) W (hb : Below w5.heap.size w5 W) => (show W.cell? ⟨a.gT, k * 11, none⟩ = some (.int .i64 0) ∧ W.cell? ⟨a.gT, k * 11 + 1, none⟩ = some (.int .i64 0) ∧ (∃ A c, W.cell? ⟨a.gT, k * 11 + 7, none⟩ = some (.slice A 0 c)) ∧ (∃ A c, W.cell? ⟨a.gT, k * 11 + 8, none⟩ = some (.slice A 0 c)) from by
    have hk' : k < m.T.length := by omega
    obtain ⟨z1, z2, z3, z4⟩ := hTz _ (List.getElem_mem hk')
    obtain ⟨b2, o2, e2, hb2, hT2⟩ := Sl.pos encTx encTx_len HM.out.T (by omega)
    injection e2 with e2
    injection e2 with e2b e2o e2s
    subst e2b e2o
    have y := hT2 W hb k hk'
    have y0 := y 0 _ rfl
    have y1 := y 1 _ rfl
    have y7 := y 7 _ rfl
    have y8 := y 8 _ rfl
    rw [z1] at y0
    rw [z2] at y1
    rw [z3] at y7
    rw [z4] at y8
    exact ⟨by simpa using y0, by simpa using y1, ⟨_, _, by simpa using y7⟩, ⟨_, _, by simpa using y8⟩⟩))
  have HKC := Lib.hid (show memCells a m = [.slice (some ⟨a.gW, 0, none⟩) wn a.cW, .int .i64 m.now, .int .i64 m.mx, .slice a.lA m.L.length a.lc, .slice (some ⟨a.gT, 0, none⟩) n a.cT, .slice a.hA 0 a.hc, .int .i64 0] from by
    unfold memCells; rw [hWn, hTn, hHn, hM0])
  have HSM := Lib.hid (fun b m2 W (hn : MemV W b m2) (hb : Below w5.heap.size w5 W) => Same_any b a m2 m W hn (HM.out.below hb))
  rw [HKC.out] at HSM
  rw [hTn, hWn, hHn, hM0] at HG
  obtain ⟨i0, hi0, hz0, hz1, hz2⟩ := info_parts int_info
  have hw8 : wn ≤ 8 := HPO.out.w8
  have hn8 : n ≤ 8 := HFW.out.1
  have hnp9 : np ≤ 150 := HFW.out.2
  have hwu : words = (wn : Int) := HWN.out
  clear hTz hH0 hM0 hTn hWn hHn
  subst hwu
  go_wp2_with fail
  go_loopg [9, 10] np (fun gg s9 s10 wr => ∃ (k c2 : Nat) (A2 : Option Addr), k ≤ np ∧ np - k ≤ gg ∧ s10 = .int .i64 k ∧ s9 = .slice A2 k c2 ∧ Hid (Below w5.heap.size w5 wr ∧ wr.ownsRow w5.heap.size 3 1 (.slice A2 k c2) k ((List.replicate k ((n : Int) + 1)).flatMap encI)))
  case atStart => exact ⟨0, 0, none, by omega, by omega, by go_num, rfl, (show Hid _ from ⟨Below.refl _ _, World.ownsRow_nil _ _ _ _⟩)⟩
  case round =>
    obtain ⟨k, c2, A2, hk, hg, rfl, rfl, HI⟩ := hrel
    by_cases hlt : k < np
    · have hltz : (k : Int) < (np : Int) := by omega
      obtain ⟨p0, p1, p2⟩ := HP.out _ (HB5.out.trans (HI.out.1.mono HB5.out.size))
      have hwr : IntKind.i64.wrap ((n : Int) + 1) = (n : Int) + 1 := by rw [IntKind.wrap_i64]; omega
      have hA1 := (Below.refl wr.heap.size wr).alloc (Nat.le_refl _) (.cells #[.int .i64 ((n : Int) + 1)] 3)
      have HA1 := Lib.hid hA1
      have HOWN := Lib.hid (own_below HI.out.2 hA1)
      have HNEWS := Lib.hid (show ∀ (j : Nat) u, [Value.int .i64 ((n : Int) + 1)][j]? = some u → (wr.alloc (.cells #[.int .i64 ((n : Int) + 1)] 3)).cell? ((⟨wr.heap.size, 0, none⟩ : Addr).add j) = some u from by
        intro j u hu
        rw [add_none, Nat.zero_add, (Blk.new wr _ _).cell, List.getElem?_toArray]
        exact hu)
      have HONE := Lib.hid (show ∀ u ∈ [Value.int .i64 ((n : Int) + 1)], u.oneCell' = true from by simp [Value.oneCell'])
      have hwb := HI.out.1.size
      clear hA1
      go_wp2_with (at_builtin; refine wpList_append_own_at _ rfl (.tmp 41) (.tmp 46) _ rfl w5.heap.size 3 i0 _ 1 8 Try.underlying25 hi0 hz0 hz1 hz2 rfl (by omega) (.slice A2 k c2) k _ rfl HOWN.out ⟨wr.heap.size, 0, none⟩ 1 1 _ rfl rfl HNEWS.out HONE.out (by unfold maxLen; omega) (by omega) (by simp; omega) ?_; intro v1 w3 hown1 hgrow _ hat; obtain ⟨g, cap, cur, rfl, hg1, hrow, _, _, _, _⟩ := own_form hown1 (by omega); have HG2 := Lib.hid hgrow; have HO := Lib.hid hown1; clear hgrow hown1 hat hrow)
      go_roundg (np - (k + 1))
      case measure => omega
      case rel =>
        refine ⟨k + 1, cap, some ⟨g, 0, none⟩, by omega, by omega, by go_num, rfl, (show Hid _ from ⟨?_, ?_⟩)⟩
        · refine (HI.out.1.trans (HA1.out.mono HI.out.1.size)).grown HG2.out (by simp; omega) ?_
          intro k hk
          have := (HOWN.out.lt k hk).1
          omega
        · have h5 := HO.out
          rw [List.replicate_succ', List.flatMap_append]
          exact h5
    · obtain rfl : np = k := by omega
      obtain ⟨p0, p1, p2⟩ := HP.out _ (HB5.out.trans (HI.out.1.mono HB5.out.size))
      have HBR := Lib.hid (HB5.out.trans (HI.out.1.mono HB5.out.size))
      have HBR5 := Lib.hid HI.out.1
      have HLL := Lib.hid (show (List.replicate np ((n : Int) + 1)).length = np from List.length_replicate)
      have HSLR := Lib.hid (Sl.of_own HI.out.2)
      obtain ⟨lst, hlst⟩ : ∃ l, l = List.replicate np ((n : Int) + 1) := ⟨_, rfl⟩
      have HLS := Lib.hid hlst
      rw [← hlst] at HSLR HLL
      clear HI hlst
      go_wp2_with fail
      refine (HRY.out wn rfl HMAY.out (.slice A2 np c2) lst (by rw [HLL.out]; omega) _ HBR.out (by rw [HLL.out]; exact HSLR.out)).mono ?_
      rintro e w6 ⟨a2, m2, rfl, hm2, her2, hb6⟩
      have HM2 := Lib.hid hm2
      have HEQ := Lib.hid (show memEq { m2 with time := 0 } m = true from begins_er HER.out her2 (fun q hq => by rw [HLS.out] at hq; have := List.eq_of_mem_replicate hq; have := HN.out; omega))
      have HB6 := Lib.hid (HBR.out.trans (hb6.mono HBR.out.size))
      have HB65 := Lib.hid (HBR5.out.trans (hb6.mono HBR5.out.size))
      clear p0 p1 p2 hb6 hm2 her2
      have kM := Blk.new_ w6 34 (memCells a2 m2).toArray _ rfl
      obtain ⟨w7, hw7⟩ : ∃ z, w6.alloc (.cells (memCells a2 m2).toArray 34) = z := ⟨_, rfl⟩
      have HM7 := Lib.hid (HM2.out.below (show Below w6.heap.size w6 w7 from hw7 ▸ (Below.refl _ _).alloc (Nat.le_refl _) _))
      have HB7 := Lib.hid (show Below w1.heap.size w1 w7 from hw7 ▸ HB6.out.alloc HB6.out.size _)
      have HB75 := Lib.hid (show Below w5.heap.size w5 w7 from hw7 ▸ HB65.out.alloc HB65.out.size _)
      rw [hw7] at kM
      have HKM2 := Lib.hid kM
      have HW7 := Lib.hid hw7
      have l6 := HB65.out.size
      clear kM hw7
      simp only [memCells] at HW7 ⊢
      go_upto_region 14 with fail
      rw [HW7.out]
      have f6 : w7.frozen? ⟨w6.heap.size, 6, none⟩ = false := HKM2.out.free 6
      have l7 : w6.heap.size < w7.heap.size := HKM2.out.lt
      have c6 : w7.cell? ⟨w6.heap.size, 6, none⟩ = some (.int .i64 m2.time) := by rw [HKM2.out.cell]; rfl
      go_upto_region 15 with fail
      have HK8 := Lib.hid (HKM2.out.set_ 6 (.int .i64 0))
      have HB8 := Lib.hid (HB7.out.setCell (p := ⟨w6.heap.size, 6, none⟩) (by have := HB6.out.size; simp; omega) (.int .i64 0))
      have HB85 := Lib.hid (HB75.out.setCell (p := ⟨w6.heap.size, 6, none⟩) (by simp; omega) (.int .i64 0))
      have HM8 := Lib.hid (show MemV (w7.setCell ⟨w6.heap.size, 6, none⟩ (.int .i64 0)) a2 { m2 with time := 0 } from by
        have h0 : MemV w7 a2 { m2 with time := 0 } := ⟨HM7.out.W, HM7.out.L, HM7.out.T, HM7.out.H, HM7.out.ts, HM7.out.hs⟩
        have h1 := (h0.below (Below.refl _ _))
        have h2 := HM2.out.below (w' := w7.setCell ⟨w6.heap.size, 6, none⟩ (.int .i64 0)) ((show Below w6.heap.size w6 w7 from by rw [← HW7.out]; exact (Below.refl _ _).alloc (Nat.le_refl _) _).setCell (p := ⟨w6.heap.size, 6, none⟩) (Nat.le_refl _) _)
        exact ⟨h2.W, h2.L, h2.T, h2.H, h2.ts, h2.hs⟩)
      have hs8 := HSM.out a2 { m2 with time := 0 } _ HM8.out HB85.out
      rw [HEQ.out] at hs8
      have HN0 := Lib.hid (fun j (hj : j < 7) => HK8.out.cell j)
      obtain ⟨w8, hw8⟩ : ∃ z, w7.setCell ⟨w6.heap.size, 6, none⟩ (.int .i64 0) = z := ⟨_, rfl⟩
      rw [hw8] at hs8 HB8 HB85 HK8 HM8 ⊢
      simp only [memCells] at hs8
      have HS8 := Lib.hid hs8
      have HKC8 := Lib.hid (fun W (hb : Below w8.heap.size w8 W) => (show W.cell? ⟨w6.heap.size, 0, none⟩ = some (.slice (some ⟨a2.gW, 0, none⟩) m2.W.length a2.cW) ∧ W.cell? ⟨w6.heap.size, 1, none⟩ = some (.int .i64 m2.now) ∧ W.cell? ⟨w6.heap.size, 2, none⟩ = some (.int .i64 m2.mx) ∧ W.cell? ⟨w6.heap.size, 3, none⟩ = some (.slice a2.lA m2.L.length a2.lc) ∧ W.cell? ⟨w6.heap.size, 4, none⟩ = some (.slice (some ⟨a2.gT, 0, none⟩) m2.T.length a2.cT) ∧ W.cell? ⟨w6.heap.size, 5, none⟩ = some (.slice a2.hA m2.H.length a2.hc) ∧ W.cell? ⟨w6.heap.size, 6, none⟩ = some (.int .i64 0) from
        ⟨by rw [(HK8.out.keep hb).cell]; rfl, by rw [(HK8.out.keep hb).cell]; rfl, by rw [(HK8.out.keep hb).cell]; rfl, by rw [(HK8.out.keep hb).cell]; rfl, by rw [(HK8.out.keep hb).cell]; rfl, by rw [(HK8.out.keep hb).cell]; rfl, by rw [(HK8.out.keep hb).cell]; rfl⟩))
      clear hs8 hw8 f6 c6 HN0 HKM2 HW7
      go_wp2_with fail
      go_loopg [13] n (fun gg s13 wr => ∃ i : Nat, i ≤ n ∧ n - i ≤ gg ∧ s13 = .int .i64 i ∧ Hid (Below w8.heap.size w8 wr))
      case atStart => exact ⟨0, by omega, by omega, rfl, Below.refl _ _⟩
      case round =>
        obtain ⟨i, hi, hg, rfl, BW⟩ := hrel
        obtain ⟨m0, m1, m2', m3, m4, m5, m6⟩ := HG.out _ (HB85.out.trans (BW.out.mono HB85.out.size))
        by_cases hlt : i < n
        · have hltz : (i : Int) < (n : Int) := by omega
          have hi0 : (0 : Int) ≤ (i : Int) := by omega
          obtain ⟨y0, y1, ⟨A7, c7, y7⟩, ⟨A8, c8, y8⟩⟩ := HTC.out i hlt wr.drew ((HB85.out.trans (BW.out.mono HB85.out.size)).drew)
          have Y0 := Lib.hid y0
          have Y1 := Lib.hid y1
          have Y7 := Lib.hid y7
          have Y8 := Lib.hid y8
          clear y0 y1 y7 y8
          go_wp2_with fail
          refine wp_region_held_drew (S := fun W => W.cell? ⟨w4.heap.size, 4, none⟩ = some (.slice (some ⟨a.gT, 0, none⟩) n a.cT) ∧ W.cell? ⟨a.gT, i * 11, none⟩ = some (.int .i64 0) ∧ W.cell? ⟨a.gT, i * 11 + 1, none⟩ = some (.int .i64 0) ∧ W.cell? ⟨a.gT, i * 11 + 7, none⟩ = some (.slice A7 0 c7) ∧ W.cell? ⟨a.gT, i * 11 + 8, none⟩ = some (.slice A8 0 c8)) (by kernel_rfl) ?_ (fun hHeldbr => ?_)
          · exact ⟨(HG.out _ ((HB85.out.trans (BW.out.mono HB85.out.size)).drew)).2.2.2.2.1, Y0.out, Y1.out, Y7.out, Y8.out⟩
          refine wpAnyH_take (i := 0) (oi := { dst := some 62, op := Op.fieldAddr 34 (Operand.tmp 7) 2, type := 0, pos := "more.go:81", after := _, guard := none }) (v := ?vbr0) rfl (by kernel_rfl) (by kernel_rfl) (by kernel_rfl) (fun _ _ _ h => h) (Or.inl ⟨by rfl, ?hybr0⟩) (by assumption) ?restbr0
          case hybr0 => (intro w hSw; (try dsimp only at hSw); go_simp <;> with_reducible rfl)
          try simp only [Act.put, List.setIfInBounds_toArray, List.set_cons_zero, List.set_cons_succ]
          refine wpAnyH_take (i := 1) (oi := { dst := some 63, op := Op.load 31 (Operand.tmp 62), type := 31, pos := "more.go:81", after := _, guard := none }) (v := ?vbr1) rfl (by kernel_rfl) (by kernel_rfl) (by kernel_rfl) (fun _ _ _ h => h) (Or.inl ⟨by rfl, ?hybr1⟩) (by assumption) ?restbr1
          case hybr1 => (intro w hSw; (try dsimp only at hSw); go_simp <;> with_reducible rfl)
          try simp only [Act.put, List.setIfInBounds_toArray, List.set_cons_zero, List.set_cons_succ]
          refine wpAnyH_take (i := 2) (oi := { dst := some 64, op := Op.move (Operand.tmp 13), type := 3, pos := "more.go:81", after := _, guard := none }) (v := ?vbr2) rfl (by kernel_rfl) (by kernel_rfl) (by kernel_rfl) (fun _ _ _ h => h) (Or.inl ⟨by rfl, ?hybr2⟩) (by assumption) ?restbr2
          case hybr2 => (intro w hSw; (try dsimp only at hSw); go_simp <;> with_reducible rfl)
          try simp only [Act.put, List.setIfInBounds_toArray, List.set_cons_zero, List.set_cons_succ]
          refine wpAnyH_take (i := 3) (oi := { dst := some 65, op := Op.indexAddr 31 (Operand.tmp 63) (Operand.tmp 64), type := 0, pos := "more.go:81", after := _, guard := none }) (v := ?vbr3) rfl (by kernel_rfl) (by kernel_rfl) (by kernel_rfl) (fun _ _ _ h => h) (Or.inl ⟨by rfl, ?hybr3⟩) (by assumption) ?restbr3
          case hybr3 => (intro w hSw; (try dsimp only at hSw); go_simp <;> with_reducible rfl)
          try simp only [Act.put, List.setIfInBounds_toArray, List.set_cons_zero, List.set_cons_succ]
          refine wpAnyH_take (i := 4) (oi := { dst := some 66, op := Op.fieldAddr 46 (Operand.tmp 65) 0, type := 0, pos := "more.go:81", after := _, guard := none }) (v := ?vbr4) rfl (by kernel_rfl) (by kernel_rfl) (by kernel_rfl) (fun _ _ _ h => h) (Or.inl ⟨by rfl, ?hybr4⟩) (by assumption) ?restbr4
          case hybr4 => (intro w hSw; (try dsimp only at hSw); go_simp <;> with_reducible rfl)
          try simp only [Act.put, List.setIfInBounds_toArray, List.set_cons_zero, List.set_cons_succ]
          refine wpAnyH_take (i := 5) (oi := { dst := some 67, op := Op.load 3 (Operand.tmp 66), type := 3, pos := "more.go:81", after := _, guard := none }) (v := ?vbr5) rfl (by kernel_rfl) (by kernel_rfl) (by kernel_rfl) (fun _ _ _ h => h) (Or.inl ⟨by rfl, ?hybr5⟩) (by assumption) ?restbr5
          case hybr5 => (intro w hSw; (try dsimp only at hSw); go_simp <;> with_reducible rfl)
          try simp only [Act.put, List.setIfInBounds_toArray, List.set_cons_zero, List.set_cons_succ]
          refine wpAnyH_take (i := 6) (oi := { dst := some 68, op := Op.binOp BinOp.neq 3 (Operand.tmp 67) (Operand.const (Value.int IntKind.i64 0)) 3, type := 4, pos := "more.go:81", after := _, guard := none }) (v := ?vbr6) rfl (by kernel_rfl) (by kernel_rfl) (by kernel_rfl) (fun _ _ _ h => h) (Or.inl ⟨by rfl, ?hybr6⟩) (by assumption) ?restbr6
          case hybr6 => (intro w hSw; (try dsimp only at hSw); go_simp <;> with_reducible rfl)
          try simp only [Act.put, List.setIfInBounds_toArray, List.set_cons_zero, List.set_cons_succ]
          refine wpAnyH_take (i := 7) (oi := { dst := some 69, op := Op.move (Operand.tmp 68), type := 4, pos := "more.go:81", after := _, guard := none }) (v := ?vbr7) rfl (by kernel_rfl) (by kernel_rfl) (by kernel_rfl) (fun _ _ _ h => h) (Or.inl ⟨by rfl, ?hybr7⟩) (by assumption) ?restbr7
          case hybr7 => (intro w hSw; (try dsimp only at hSw); go_simp <;> with_reducible rfl)
          try simp only [Act.put, List.setIfInBounds_toArray, List.set_cons_zero, List.set_cons_succ]
          refine wpAnyH_take (i := 8) (oi := { dst := some 70, op := Op.fieldAddr 34 (Operand.tmp 7) 2, type := 0, pos := "more.go:81", after := _, guard := some (7, false) }) (v := ?vbr8) rfl (by kernel_rfl) (by kernel_rfl) (by kernel_rfl) (fun _ _ _ h => h) (Or.inl ⟨by rfl, ?hybr8⟩) (by assumption) ?restbr8
          case hybr8 => (intro w hSw; (try dsimp only at hSw); go_simp <;> with_reducible rfl)
          try simp only [Act.put, List.setIfInBounds_toArray, List.set_cons_zero, List.set_cons_succ]
          refine wpAnyH_take (i := 9) (oi := { dst := some 71, op := Op.load 31 (Operand.tmp 70), type := 31, pos := "more.go:81", after := _, guard := some (7, false) }) (v := ?vbr9) rfl (by kernel_rfl) (by kernel_rfl) (by kernel_rfl) (fun _ _ _ h => h) (Or.inl ⟨by rfl, ?hybr9⟩) (by assumption) ?restbr9
          case hybr9 => (intro w hSw; (try dsimp only at hSw); go_simp <;> with_reducible rfl)
          try simp only [Act.put, List.setIfInBounds_toArray, List.set_cons_zero, List.set_cons_succ]
          refine wpAnyH_take (i := 10) (oi := { dst := some 72, op := Op.move (Operand.tmp 13), type := 3, pos := "more.go:81", after := _, guard := some (7, false) }) (v := ?vbr10) rfl (by kernel_rfl) (by kernel_rfl) (by kernel_rfl) (fun _ _ _ h => h) (Or.inl ⟨by rfl, ?hybr10⟩) (by assumption) ?restbr10
          case hybr10 => (intro w hSw; (try dsimp only at hSw); go_simp <;> with_reducible rfl)
          try simp only [Act.put, List.setIfInBounds_toArray, List.set_cons_zero, List.set_cons_succ]
          refine wpAnyH_take (i := 11) (oi := { dst := some 73, op := Op.indexAddr 31 (Operand.tmp 71) (Operand.tmp 72), type := 0, pos := "more.go:81", after := _, guard := some (7, false) }) (v := ?vbr11) rfl (by kernel_rfl) (by kernel_rfl) (by kernel_rfl) (fun _ _ _ h => h) (Or.inl ⟨by rfl, ?hybr11⟩) (by assumption) ?restbr11
          case hybr11 => (intro w hSw; (try dsimp only at hSw); go_simp <;> with_reducible rfl)
          try simp only [Act.put, List.setIfInBounds_toArray, List.set_cons_zero, List.set_cons_succ]
          refine wpAnyH_take (i := 12) (oi := { dst := some 74, op := Op.fieldAddr 46 (Operand.tmp 73) 1, type := 0, pos := "more.go:81", after := _, guard := some (7, false) }) (v := ?vbr12) rfl (by kernel_rfl) (by kernel_rfl) (by kernel_rfl) (fun _ _ _ h => h) (Or.inl ⟨by rfl, ?hybr12⟩) (by assumption) ?restbr12
          case hybr12 => (intro w hSw; (try dsimp only at hSw); go_simp <;> with_reducible rfl)
          try simp only [Act.put, List.setIfInBounds_toArray, List.set_cons_zero, List.set_cons_succ]
          refine wpAnyH_take (i := 13) (oi := { dst := some 75, op := Op.load 3 (Operand.tmp 74), type := 3, pos := "more.go:81", after := _, guard := some (7, false) }) (v := ?vbr13) rfl (by kernel_rfl) (by kernel_rfl) (by kernel_rfl) (fun _ _ _ h => h) (Or.inl ⟨by rfl, ?hybr13⟩) (by assumption) ?restbr13
          case hybr13 => (intro w hSw; (try dsimp only at hSw); go_simp <;> with_reducible rfl)
          try simp only [Act.put, List.setIfInBounds_toArray, List.set_cons_zero, List.set_cons_succ]
          refine wpAnyH_take (i := 14) (oi := { dst := some 76, op := Op.binOp BinOp.neq 3 (Operand.tmp 75) (Operand.const (Value.int IntKind.i64 0)) 3, type := 4, pos := "more.go:81", after := _, guard := some (7, false) }) (v := ?vbr14) rfl (by kernel_rfl) (by kernel_rfl) (by kernel_rfl) (fun _ _ _ h => h) (Or.inl ⟨by rfl, ?hybr14⟩) (by assumption) ?restbr14
          case hybr14 => (intro w hSw; (try dsimp only at hSw); go_simp <;> with_reducible rfl)
          try simp only [Act.put, List.setIfInBounds_toArray, List.set_cons_zero, List.set_cons_succ]
          refine wpAnyH_take (i := 15) (oi := { dst := some 77, op := Op.pick (Operand.tmp 69) (Operand.const (Value.bool true)) (Operand.tmp 76), type := 4, pos := "more.go:81", after := _, guard := none }) (v := ?vbr15) rfl (by kernel_rfl) (by kernel_rfl) (by kernel_rfl) (fun _ _ _ h => h) (Or.inl ⟨by rfl, ?hybr15⟩) (by assumption) ?restbr15
          case hybr15 => (intro w hSw; (try dsimp only at hSw); go_simp <;> with_reducible rfl)
          try simp only [Act.put, List.setIfInBounds_toArray, List.set_cons_zero, List.set_cons_succ]
          refine wpAnyH_take (i := 16) (oi := { dst := some 78, op := Op.move (Operand.tmp 77), type := 4, pos := "more.go:81", after := _, guard := none }) (v := ?vbr16) rfl (by kernel_rfl) (by kernel_rfl) (by kernel_rfl) (fun _ _ _ h => h) (Or.inl ⟨by rfl, ?hybr16⟩) (by assumption) ?restbr16
          case hybr16 => (intro w hSw; (try dsimp only at hSw); go_simp <;> with_reducible rfl)
          try simp only [Act.put, List.setIfInBounds_toArray, List.set_cons_zero, List.set_cons_succ]
          refine wpAnyH_take (i := 17) (oi := { dst := some 79, op := Op.fieldAddr 34 (Operand.tmp 7) 2, type := 0, pos := "more.go:81", after := _, guard := some (16, false) }) (v := ?vbr17) rfl (by kernel_rfl) (by kernel_rfl) (by kernel_rfl) (fun _ _ _ h => h) (Or.inl ⟨by rfl, ?hybr17⟩) (by assumption) ?restbr17
          case hybr17 => (intro w hSw; (try dsimp only at hSw); go_simp <;> with_reducible rfl)
          try simp only [Act.put, List.setIfInBounds_toArray, List.set_cons_zero, List.set_cons_succ]
          refine wpAnyH_take (i := 18) (oi := { dst := some 80, op := Op.load 31 (Operand.tmp 79), type := 31, pos := "more.go:81", after := _, guard := some (16, false) }) (v := ?vbr18) rfl (by kernel_rfl) (by kernel_rfl) (by kernel_rfl) (fun _ _ _ h => h) (Or.inl ⟨by rfl, ?hybr18⟩) (by assumption) ?restbr18
          case hybr18 => (intro w hSw; (try dsimp only at hSw); go_simp <;> with_reducible rfl)
          try simp only [Act.put, List.setIfInBounds_toArray, List.set_cons_zero, List.set_cons_succ]
          refine wpAnyH_take (i := 19) (oi := { dst := some 81, op := Op.move (Operand.tmp 13), type := 3, pos := "more.go:81", after := _, guard := some (16, false) }) (v := ?vbr19) rfl (by kernel_rfl) (by kernel_rfl) (by kernel_rfl) (fun _ _ _ h => h) (Or.inl ⟨by rfl, ?hybr19⟩) (by assumption) ?restbr19
          case hybr19 => (intro w hSw; (try dsimp only at hSw); go_simp <;> with_reducible rfl)
          try simp only [Act.put, List.setIfInBounds_toArray, List.set_cons_zero, List.set_cons_succ]
          refine wpAnyH_take (i := 20) (oi := { dst := some 82, op := Op.indexAddr 31 (Operand.tmp 80) (Operand.tmp 81), type := 0, pos := "more.go:81", after := _, guard := some (16, false) }) (v := ?vbr20) rfl (by kernel_rfl) (by kernel_rfl) (by kernel_rfl) (fun _ _ _ h => h) (Or.inl ⟨by rfl, ?hybr20⟩) (by assumption) ?restbr20
          case hybr20 => (intro w hSw; (try dsimp only at hSw); go_simp <;> with_reducible rfl)
          try simp only [Act.put, List.setIfInBounds_toArray, List.set_cons_zero, List.set_cons_succ]
          refine wpAnyH_take (i := 21) (oi := { dst := some 83, op := Op.fieldAddr 46 (Operand.tmp 82) 7, type := 0, pos := "more.go:81", after := _, guard := some (16, false) }) (v := ?vbr21) rfl (by kernel_rfl) (by kernel_rfl) (by kernel_rfl) (fun _ _ _ h => h) (Or.inl ⟨by rfl, ?hybr21⟩) (by assumption) ?restbr21
          case hybr21 => (intro w hSw; (try dsimp only at hSw); go_simp <;> with_reducible rfl)
          try simp only [Act.put, List.setIfInBounds_toArray, List.set_cons_zero, List.set_cons_succ]
          refine wpAnyH_take (i := 22) (oi := { dst := some 84, op := Op.load 44 (Operand.tmp 83), type := 44, pos := "more.go:81", after := _, guard := some (16, false) }) (v := ?vbr22) rfl (by kernel_rfl) (by kernel_rfl) (by kernel_rfl) (fun _ _ _ h => h) (Or.inl ⟨by rfl, ?hybr22⟩) (by assumption) ?restbr22
          case hybr22 => (intro w hSw; (try dsimp only at hSw); go_simp <;> with_reducible rfl)
          try simp only [Act.put, List.setIfInBounds_toArray, List.set_cons_zero, List.set_cons_succ]
          refine wpAnyH_take (i := 23) (oi := { dst := some 85, op := Op.call { callee := Callee.builtin Builtin.len, args := #[Operand.tmp 84], argTypes := #[44] }, type := 3, pos := "more.go:81", after := _, guard := some (16, false) }) (v := ?vbr23) rfl (by kernel_rfl) (by kernel_rfl) (by kernel_rfl) (fun _ _ _ h => h) (Or.inl ⟨by rfl, ?hybr23⟩) (by assumption) ?restbr23
          case hybr23 => (intro w hSw; (try dsimp only at hSw); go_simp <;> with_reducible rfl)
          try simp only [Act.put, List.setIfInBounds_toArray, List.set_cons_zero, List.set_cons_succ]
          refine wpAnyH_take (i := 24) (oi := { dst := some 86, op := Op.fieldAddr 34 (Operand.tmp 7) 2, type := 0, pos := "more.go:81", after := _, guard := some (16, false) }) (v := ?vbr24) rfl (by kernel_rfl) (by kernel_rfl) (by kernel_rfl) (fun _ _ _ h => h) (Or.inl ⟨by rfl, ?hybr24⟩) (by assumption) ?restbr24
          case hybr24 => (intro w hSw; (try dsimp only at hSw); go_simp <;> with_reducible rfl)
          try simp only [Act.put, List.setIfInBounds_toArray, List.set_cons_zero, List.set_cons_succ]
          refine wpAnyH_take (i := 25) (oi := { dst := some 87, op := Op.load 31 (Operand.tmp 86), type := 31, pos := "more.go:81", after := _, guard := some (16, false) }) (v := ?vbr25) rfl (by kernel_rfl) (by kernel_rfl) (by kernel_rfl) (fun _ _ _ h => h) (Or.inl ⟨by rfl, ?hybr25⟩) (by assumption) ?restbr25
          case hybr25 => (intro w hSw; (try dsimp only at hSw); go_simp <;> with_reducible rfl)
          try simp only [Act.put, List.setIfInBounds_toArray, List.set_cons_zero, List.set_cons_succ]
          refine wpAnyH_take (i := 26) (oi := { dst := some 88, op := Op.move (Operand.tmp 13), type := 3, pos := "more.go:81", after := _, guard := some (16, false) }) (v := ?vbr26) rfl (by kernel_rfl) (by kernel_rfl) (by kernel_rfl) (fun _ _ _ h => h) (Or.inl ⟨by rfl, ?hybr26⟩) (by assumption) ?restbr26
          case hybr26 => (intro w hSw; (try dsimp only at hSw); go_simp <;> with_reducible rfl)
          try simp only [Act.put, List.setIfInBounds_toArray, List.set_cons_zero, List.set_cons_succ]
          refine wpAnyH_take (i := 27) (oi := { dst := some 89, op := Op.indexAddr 31 (Operand.tmp 87) (Operand.tmp 88), type := 0, pos := "more.go:81", after := _, guard := some (16, false) }) (v := ?vbr27) rfl (by kernel_rfl) (by kernel_rfl) (by kernel_rfl) (fun _ _ _ h => h) (Or.inl ⟨by rfl, ?hybr27⟩) (by assumption) ?restbr27
          case hybr27 => (intro w hSw; (try dsimp only at hSw); go_simp <;> with_reducible rfl)
          try simp only [Act.put, List.setIfInBounds_toArray, List.set_cons_zero, List.set_cons_succ]
          refine wpAnyH_take (i := 28) (oi := { dst := some 90, op := Op.fieldAddr 46 (Operand.tmp 89) 8, type := 0, pos := "more.go:81", after := _, guard := some (16, false) }) (v := ?vbr28) rfl (by kernel_rfl) (by kernel_rfl) (by kernel_rfl) (fun _ _ _ h => h) (Or.inl ⟨by rfl, ?hybr28⟩) (by assumption) ?restbr28
          case hybr28 => (intro w hSw; (try dsimp only at hSw); go_simp <;> with_reducible rfl)
          try simp only [Act.put, List.setIfInBounds_toArray, List.set_cons_zero, List.set_cons_succ]
          refine wpAnyH_take (i := 29) (oi := { dst := some 91, op := Op.load 44 (Operand.tmp 90), type := 44, pos := "more.go:81", after := _, guard := some (16, false) }) (v := ?vbr29) rfl (by kernel_rfl) (by kernel_rfl) (by kernel_rfl) (fun _ _ _ h => h) (Or.inl ⟨by rfl, ?hybr29⟩) (by assumption) ?restbr29
          case hybr29 => (intro w hSw; (try dsimp only at hSw); go_simp <;> with_reducible rfl)
          try simp only [Act.put, List.setIfInBounds_toArray, List.set_cons_zero, List.set_cons_succ]
          refine wpAnyH_take (i := 30) (oi := { dst := some 92, op := Op.call { callee := Callee.builtin Builtin.len, args := #[Operand.tmp 91], argTypes := #[44] }, type := 3, pos := "more.go:81", after := _, guard := some (16, false) }) (v := ?vbr30) rfl (by kernel_rfl) (by kernel_rfl) (by kernel_rfl) (fun _ _ _ h => h) (Or.inl ⟨by rfl, ?hybr30⟩) (by assumption) ?restbr30
          case hybr30 => (intro w hSw; (try dsimp only at hSw); go_simp <;> with_reducible rfl)
          try simp only [Act.put, List.setIfInBounds_toArray, List.set_cons_zero, List.set_cons_succ]
          refine wpAnyH_take (i := 31) (oi := { dst := some 93, op := Op.binOp BinOp.add 3 (Operand.tmp 85) (Operand.tmp 92) 3, type := 3, pos := "more.go:81", after := _, guard := some (16, false) }) (v := ?vbr31) rfl (by kernel_rfl) (by kernel_rfl) (by kernel_rfl) (fun _ _ _ h => h) (Or.inl ⟨by rfl, ?hybr31⟩) (by assumption) ?restbr31
          case hybr31 => (intro w hSw; (try dsimp only at hSw); go_simp <;> with_reducible rfl)
          try simp only [Act.put, List.setIfInBounds_toArray, List.set_cons_zero, List.set_cons_succ]
          refine wpAnyH_take (i := 32) (oi := { dst := some 94, op := Op.binOp BinOp.neq 3 (Operand.tmp 93) (Operand.const (Value.int IntKind.i64 0)) 3, type := 4, pos := "more.go:81", after := _, guard := some (16, false) }) (v := ?vbr32) rfl (by kernel_rfl) (by kernel_rfl) (by kernel_rfl) (fun _ _ _ h => h) (Or.inl ⟨by rfl, ?hybr32⟩) (by assumption) ?restbr32
          case hybr32 => (intro w hSw; (try dsimp only at hSw); go_simp <;> with_reducible rfl)
          try simp only [Act.put, List.setIfInBounds_toArray, List.set_cons_zero, List.set_cons_succ]
          refine wpAnyH_take (i := 33) (oi := { dst := some 95, op := Op.pick (Operand.tmp 78) (Operand.const (Value.bool true)) (Operand.tmp 94), type := 4, pos := "more.go:81", after := _, guard := none }) (v := ?vbr33) rfl (by kernel_rfl) (by kernel_rfl) (by kernel_rfl) (fun _ _ _ h => h) (Or.inl ⟨by rfl, ?hybr33⟩) (by assumption) ?restbr33
          case hybr33 => (intro w hSw; (try dsimp only at hSw); go_simp <;> with_reducible rfl)
          try simp only [Act.put, List.setIfInBounds_toArray, List.set_cons_zero, List.set_cons_succ]
          refine wpAnyH_done (by kernel_rfl) ?_ _
          go_wp2_with fail
          go_roundg (n - (i + 1))
          case measure => omega
          case rel => exact ⟨i + 1, by omega, by omega, by go_num, BW.out.drew⟩
        · obtain rfl : n = i := by omega
          obtain ⟨q0, q1, q2, q3, q4, q5, q6⟩ := HKC8.out _ BW.out
          have HS9 := Lib.hid (HSM.out a2 { m2 with time := 0 } wr (HM8.out.below BW.out) (HB85.out.trans (BW.out.mono HB85.out.size)))
          rw [HEQ.out] at HS9
          simp only [memCells] at HS9
          go_wp2_with fail
          refine HS9.out.mono ?_
          rintro e w9 ⟨rfl, hb9⟩
          have HB9 := Lib.hid (BW.out.trans (hb9.mono BW.out.size))
          clear q0 q1 q2 q3 q4 q5 q6 m0 m1 m2' m3 m4 m5 m6 hb9
          obtain ⟨m0, m1, m2', m3, m4, m5, m6⟩ := HG.out _ (HB85.out.trans (HB9.out.mono HB85.out.size))
          obtain ⟨p0, p1, p2⟩ := HP.out _ (HB8.out.trans (HB9.out.mono HB8.out.size))
          go_wp2_with fail
          go_ret
          exact ⟨rfl, HB1.out.trans ((HB8.out.trans (HB9.out.mono HB8.out.size)).mono HB1.out.size)⟩
end Go.Proofs.Ytngimbfojccikaa

