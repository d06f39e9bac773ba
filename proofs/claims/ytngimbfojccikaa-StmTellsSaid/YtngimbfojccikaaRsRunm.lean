/- foliateref19: Run: printed by rs_run.py. -/
import Derived.Test.YtngimbfojccikaaRsStepm
import Derived.Test.YtngimbfojccikaaRsMaym
namespace Go.Proofs.Ytngimbfojccikaa
set_option linter.unusedSimpArgs false
open Go Go.RowKit
set_option linter.unusedVariables false
set_option maxRecDepth 100000

theorem ref_init {w0 w : World} {r gW gT : Nat} {lA : Option Addr} {lc : Nat} {words n : Nat} {mx : Int} (hb : Below w0.heap.size w0 w) (hr : w0.heap.size ≤ r) (hgW : w0.heap.size ≤ gW) (hgT : w0.heap.size ≤ gT) (hn : n ≤ 4) (hw : words ≤ 8)
    (hrun : Blk w r 34 #[.slice (some ⟨gW, 0, none⟩) words words, .int .i64 0, .int .i64 mx, .slice lA words lc, .slice (some ⟨gT, 0, none⟩) n n, .slice none 0 0, .int .i64 0])
    (hW : Blk w gW 3 ((List.replicate words (0 : Int)).flatMap encI).toArray) (hT : Blk w gT 46 ((List.replicate n Tx.zero).flatMap encTx).toArray) (hL : RowL w w0.heap.size (.slice lA words lc) (List.replicate words ⟨0, -1⟩)) :
    RefW w0 w r ⟨gW, words, lA, lc, gT, n, none, 0⟩ (initM words mx n) := by
  have eW : (initM words mx n).W.length = words := by simp [initM]
  have eL : (initM words mx n).L.length = words := by simp [initM]
  have eT : (initM words mx n).T.length = n := by simp [initM]
  refine ⟨hb, hr, ?_, ?_, ?_, ?_, World.ownsRow_nil _ _ _ _, fun t ht => ?_, fun x hx => by simp [initM] at hx⟩
  · have e : memCells ⟨gW, words, lA, lc, gT, n, none, 0⟩ (initM words mx n) = [.slice (some ⟨gW, 0, none⟩) words words, .int .i64 0, .int .i64 mx, .slice lA words lc, .slice (some ⟨gT, 0, none⟩) n n, .slice none 0 0, .int .i64 0] := by
      unfold memCells
      rw [eW, eL, eT]
      rfl
    rw [e]
    exact hrun
  · rw [eW]
    exact own_of (by rw [flat_len encI encI_len, eW]) hgW hW (Nat.le_refl _) (by show words ≤ maxLen; unfold maxLen; omega) (by simp [flat_len encI encI_len]) (by rw [List.take_of_length_le (by simp [flat_len encI encI_len])]; rfl)
  · rw [eL]
    have h1 := hL
    unfold RowL at h1
    rw [List.length_replicate] at h1
    exact h1
  · rw [eT]
    exact own_of (by rw [flat_len encTx encTx_len, eT]) hgT hT (Nat.le_refl _) (by show n ≤ maxLen; unfold maxLen; omega) (by simp [flat_len encTx encTx_len]) (by rw [List.take_of_length_le (by simp [flat_len encTx encTx_len])]; rfl)
  · have : t = Tx.zero := by simp only [initM] at ht; exact List.eq_of_mem_replicate ht
    subst this
    exact ⟨World.ownsRow_nil _ _ _ _, World.ownsRow_nil _ _ _ _⟩

theorem mem_size7 : (Try.prog.info? 34).map (·.size) = some 7 := by kernel_rfl
set_option maxHeartbeats 8000000 in
theorem rrun_no (words mx : Int) (pl : List (List (List Ac))) (pv kv : Value) (w : World) (hpl : PlV w pv pl) (hn : mayP words mx pl = false) :
    Calls Try.prog 13 #[planV words mx pv, kv] w fun e w' => e = .returned (.tuple #[.agg #[.slice none 0 0, .int .i64 0, .int .i64 0, .slice none 0 0, .slice none 0 0, .slice none 0 0, .int .i64 0], .bool false]) ∧ Below w.heap.size w w' := by
  obtain ⟨A, c, rfl, _, _⟩ := hpl.form
  obtain ⟨n, hnn⟩ : ∃ z, z = pl.length := ⟨_, rfl⟩
  have hb0 : Below w.heap.size w ((w.alloc (.cells #[.int .i64 words, .int .i64 mx, .slice A n c] 24)).alloc (.cells #[.slice none 0 0, .int .i64 0, .int .i64 0, .slice none 0 0, .slice none 0 0, .slice none 0 0, .int .i64 0] 34)) := ((Below.refl _ w).alloc (Nat.le_refl _) _).alloc (by simp) _
  have k2 : Blk ((w.alloc (.cells #[.int .i64 words, .int .i64 mx, .slice A n c] 24)).alloc (.cells #[.slice none 0 0, .int .i64 0, .int .i64 0, .slice none 0 0, .slice none 0 0, .slice none 0 0, .int .i64 0] 34)) w.heap.size 24 #[.int .i64 words, .int .i64 mx, .slice A n c] := (Blk.new_ w _ _ _ rfl).alloc _
  have k4 : Blk ((w.alloc (.cells #[.int .i64 words, .int .i64 mx, .slice A n c] 24)).alloc (.cells #[.slice none 0 0, .int .i64 0, .int .i64 0, .slice none 0 0, .slice none 0 0, .slice none 0 0, .int .i64 0] 34)) (w.heap.size + 1) 34 #[.slice none 0 0, .int .i64 0, .int .i64 0, .slice none 0 0, .slice none 0 0, .slice none 0 0, .int .i64 0] := Blk.new_ _ _ _ _ (by simp)
  have HM := Lib.hid (hn ▸ rpmay_any words mx pl (.slice A pl.length c) _ (hpl.below hb0))
  have HB0 := Lib.hid hb0
  have HK4 := Lib.hid k4
  rw [← hnn] at HM ⊢
  clear hpl hn k2 k4 hb0 hnn
  unfold planV at HM ⊢
  go_enter Try.func13, Try.ntmps13
  go_wp2_with fail
  refine HM.out.mono ?_
  rintro e w1 ⟨rfl, hb1⟩
  have k4 := HK4.out.keep hb1
  have c0 : w1.cell? ⟨w.heap.size + 1, 0, none⟩ = some (.slice none 0 0) := by rw [k4.cell]; rfl
  have c1 : w1.cell? ⟨w.heap.size + 1, 1, none⟩ = some (.int .i64 0) := by rw [k4.cell]; rfl
  have c2 : w1.cell? ⟨w.heap.size + 1, 2, none⟩ = some (.int .i64 0) := by rw [k4.cell]; rfl
  have c3 : w1.cell? ⟨w.heap.size + 1, 3, none⟩ = some (.slice none 0 0) := by rw [k4.cell]; rfl
  have c4 : w1.cell? ⟨w.heap.size + 1, 4, none⟩ = some (.slice none 0 0) := by rw [k4.cell]; rfl
  have c5 : w1.cell? ⟨w.heap.size + 1, 5, none⟩ = some (.slice none 0 0) := by rw [k4.cell]; rfl
  have c6 : w1.cell? ⟨w.heap.size + 1, 6, none⟩ = some (.int .i64 0) := by rw [k4.cell]; rfl
  have f := k4.free
  have l := k4.lt
  have HB := Lib.hid (HB0.out.trans (hb1.mono HB0.out.size))
  clear hb1 k4
  go_wp2
  refine bodyPost_ret (v := .tuple #[.agg #[.slice none 0 0, .int .i64 0, .int .i64 0, .slice none 0 0, .slice none 0 0, .slice none 0 0, .int .i64 0], .bool false]) (by simp [results, Try.results13, go_sem, *]) rfl ⟨rfl, ?_⟩
  exact ((((((HB.out.setCell (by simp) _).setCell (by simp) _).setCell (by simp) _).setCell (by simp) _).setCell (by simp) _).setCell (by simp) _).setCell (by simp) _

set_option maxHeartbeats 16000000 in
theorem rrun_yes (words : Nat) (mx : Int) (pl : List (List (List Ac))) (pv kv : Value) (picks : List Int) (w : World) (hpl : PlV w pv pl) (hkv : Sl w 1 kv picks.length (picks.flatMap encI)) (hm : mayP (words : Int) mx pl = true) (hpk : picks.length ≤ 900) :
    Calls Try.prog 13 #[planV (words : Int) mx pv, kv] w (RunPost w (runM words mx pl picks)) := by
  obtain ⟨words', hw', hP⟩ := planOk_of hm
  obtain rfl : words = words' := by omega
  have hw1 := hP.w1
  have hw8 := hP.w8
  have hm0 := hP.m0
  have hm1 := hP.m1
  have hp1 := hP.p1
  have hp4 := hP.p4
  obtain ⟨A, c, rfl, _, _⟩ := hpl.form
  obtain ⟨Ak, ck, rfl, _, _⟩ := hkv.form
  obtain ⟨n, hn⟩ : ∃ n, n = pl.length := ⟨_, rfl⟩
  obtain ⟨np, hnp⟩ : ∃ n, n = picks.length := ⟨_, rfl⟩
  have hb0 : Below w.heap.size w ((w.alloc (.cells #[.int .i64 (words : Int), .int .i64 mx, .slice A n c] 24)).alloc (.cells #[.slice none 0 0, .int .i64 0, .int .i64 0, .slice none 0 0, .slice none 0 0, .slice none 0 0, .int .i64 0] 34)) := ((Below.refl _ w).alloc (Nat.le_refl _) _).alloc (by simp) _
  have k2 : Blk ((w.alloc (.cells #[.int .i64 (words : Int), .int .i64 mx, .slice A n c] 24)).alloc (.cells #[.slice none 0 0, .int .i64 0, .int .i64 0, .slice none 0 0, .slice none 0 0, .slice none 0 0, .int .i64 0] 34)) w.heap.size 24 #[.int .i64 (words : Int), .int .i64 mx, .slice A n c] := (Blk.new_ w _ _ _ rfl).alloc _
  have k4 : Blk ((w.alloc (.cells #[.int .i64 (words : Int), .int .i64 mx, .slice A n c] 24)).alloc (.cells #[.slice none 0 0, .int .i64 0, .int .i64 0, .slice none 0 0, .slice none 0 0, .slice none 0 0, .int .i64 0] 34)) (w.heap.size + 1) 34 #[.slice none 0 0, .int .i64 0, .int .i64 0, .slice none 0 0, .slice none 0 0, .slice none 0 0, .int .i64 0] := Blk.new_ _ _ _ _ (by simp)
  have HM := Lib.hid (hm ▸ rpmay_any (words : Int) mx pl (.slice A pl.length c) _ (hpl.below hb0))
  have HKP := Lib.hid (fun h0 : 0 < picks.length => Sl.pos encI encI_len hkv h0)
  have HPL := Lib.hid hpl
  have HN := Lib.hid hn
  have HNP := Lib.hid hnp
  have HPO := Lib.hid hP
  have HL := Lib.hid (fun W => RNew_yes words mx W hw1 hw8 hm0 hm1)
  rw [← hn] at HM hp1 hp4 ⊢
  rw [← hnp] at hpk ⊢
  have HB0 := Lib.hid hb0
  have HK2 := Lib.hid k2
  have HK4 := Lib.hid k4
  clear hpl hkv hm hP hb0 k2 k4 hn hnp hw'
  unfold planV at HM ⊢
  go_enter Try.func13, Try.ntmps13
  go_wp2_with fail
  refine HM.out.mono ?_
  rintro e w1 ⟨rfl, hb1⟩
  have HB1 := Lib.hid (HB0.out.trans (hb1.mono HB0.out.size))
  have k2 := HK2.out.keep hb1
  have HK4a := Lib.hid (HK4.out.keep hb1)
  have HK2a := Lib.hid k2
  have c0 : w1.cell? ⟨w.heap.size, 0, none⟩ = some (.int .i64 (words : Int)) := by rw [k2.cell]; rfl
  have c1 : w1.cell? ⟨w.heap.size, 1, none⟩ = some (.int .i64 mx) := by rw [k2.cell]; rfl
  have HZ1 := Lib.hid (show w.heap.size + 2 ≤ w1.heap.size from by have := HK4a.out.lt; omega)
  clear hb1 k2 HM
  go_wp2_with fail
  refine (HL.out _).mono ?_
  rintro e w2 ⟨v2, rfl, ⟨sv, rfl, hrow⟩, hb2⟩
  obtain ⟨A2, c2, rfl, _, _⟩ := (Sl.of_own hrow).form
  rw [List.length_replicate] at hrow ⊢
  have hbC := Below.alloc hb2 hb2.size (.cells #[.int .i64 0, .int .i64 mx, .slice A2 words c2] 30)
  have kC := Blk.new_ w2 30 #[.int .i64 0, .int .i64 mx, .slice A2 words c2] _ rfl
  have hrow3 := own_below hrow (Below.alloc (Below.refl w2.heap.size w2) (Nat.le_refl _) (.cells #[.int .i64 0, .int .i64 mx, .slice A2 words c2] 30))
  obtain ⟨w3, hw3⟩ : ∃ y, w2.alloc (.cells #[.int .i64 0, .int .i64 mx, .slice A2 words c2] 30) = y := ⟨_, rfl⟩
  rw [hw3] at hbC kC hrow3
  have HW3 := Lib.hid hw3
  have HB13 := Lib.hid hbC
  have HROW3 := Lib.hid hrow3
  have hgc1 : w1.heap.size ≤ w2.heap.size := hb2.size
  obtain ⟨gc, hgc⟩ : ∃ z, w2.heap.size = z := ⟨_, rfl⟩
  rw [hgc] at kC hgc1
  have HGC := Lib.hid hgc
  have HKC := Lib.hid kC
  have HK2c := Lib.hid (HK2a.out.keep hbC)
  have HK4c := Lib.hid (HK4a.out.keep hbC)
  clear hrow hb2 hbC kC hrow3 hw3 hgc c0 c1
  obtain ⟨i0, hi0, iz0, iz1, iz2⟩ := info_parts int_info
  obtain ⟨j0, hj0, jz0, jz1, jz2⟩ := info_parts tx_info
  have hmkW : ∀ (w : World) (kl kc : IntKind), (Instr.makeSlice 25 (.int kl (words : Int)) (.int kc (words : Int))).run Try.prog w = .ok (.slice (some ⟨w.heap.size, 0, none⟩) words words) (w.alloc (.cells ((List.replicate words (0 : Int)).flatMap encI).toArray 3)) := by
    intro w kl kc
    have := run_make (P := Try.prog) w 25 3 i0 _ Try.underlying25 hi0 iz0 kl kc (words : Int) (words : Int) (by omega) (Int.le_refl _) (by rw [iz2]; omega) (by omega)
    rw [this, Int.toNat_natCast, iz1, made_ints']
  have hmkT : ∀ (w : World) (kl kc : IntKind), (Instr.makeSlice 31 (.int kl (n : Int)) (.int kc (n : Int))).run Try.prog w = .ok (.slice (some ⟨w.heap.size, 0, none⟩) n n) (w.alloc (.cells ((List.replicate n Tx.zero).flatMap encTx).toArray 46)) := by
    intro w kl kc
    have := run_make (P := Try.prog) w 31 46 j0 _ Try.underlying31 hj0 jz0 kl kc (n : Int) (n : Int) (by omega) (Int.le_refl _) (by rw [jz2]; omega) (by omega)
    rw [this, Int.toNat_natCast, jz1, made_tx n hp1 hp4]
  generalize hcW : ((List.replicate words (0 : Int)).flatMap encI).toArray = cW at hmkW
  generalize hcT : ((List.replicate n Tx.zero).flatMap encTx).toArray = cT at hmkT
  have HCW := Lib.hid hcW
  have HCT := Lib.hid hcT
  clear hi0 iz0 iz1 iz2 hj0 jz0 jz1 jz2 hcW hcT
  have HS := Lib.hid (fun W (hb : Below w3.heap.size w3 W) => (show W.cell? ⟨w.heap.size, 0, none⟩ = some (.int .i64 (words : Int)) ∧ W.cell? ⟨w.heap.size, 1, none⟩ = some (.int .i64 mx) ∧ W.cell? ⟨w.heap.size, 2, none⟩ = some (.slice A n c) ∧ W.cell? ⟨gc, 0, none⟩ = some (.int .i64 0) ∧ W.cell? ⟨gc, 1, none⟩ = some (.int .i64 mx) ∧ W.cell? ⟨gc, 2, none⟩ = some (.slice A2 words c2) from ⟨by rw [(HK2c.out.keep hb).cell]; rfl, by rw [(HK2c.out.keep hb).cell]; rfl, by rw [(HK2c.out.keep hb).cell]; rfl, by rw [(HKC.out.keep hb).cell]; rfl, by rw [(HKC.out.keep hb).cell]; rfl, by rw [(HKC.out.keep hb).cell]; rfl⟩))
  go_upto_region 5 with fail
  rw [HW3.out, HGC.out]
  go_cut [9] (fun s9 wx => ∃ r, s9 = .pointer (some ⟨r, 0, none⟩) ∧ Hid (∃ a, RefW w1 wx r a (initM words mx n)))
  case first =>
    have hBB : Below w3.heap.size w3 w3.drew := (Below.refl _ _).drew
    obtain ⟨wz, hwz⟩ : ∃ z, w3.drew = z := ⟨_, rfl⟩
    rw [hwz] at hBB
    have HWZ := Lib.hid hwz
    clear hwz
    refine wp_region_held_drew (S := fun W => W.cell? ⟨w.heap.size, 0, none⟩ = some (.int .i64 (words : Int)) ∧ W.cell? ⟨w.heap.size, 1, none⟩ = some (.int .i64 mx) ∧ W.cell? ⟨w.heap.size, 2, none⟩ = some (.slice A n c) ∧ W.cell? ⟨gc, 0, none⟩ = some (.int .i64 0) ∧ W.cell? ⟨gc, 1, none⟩ = some (.int .i64 mx) ∧ W.cell? ⟨gc, 2, none⟩ = some (.slice A2 words c2)) (by kernel_rfl) ?_ (fun hbr => ?_)
    · exact HS.out _ (Below.refl _ _).drew
    refine tkA 0 ?_
    refine tkA 1 ?_
    refine tkA 3 ?_
    refine tkA 4 ?_
    refine tkA 5 ?_
    refine tkA 6 ?_
    refine wpAnyH_ready (rs := [2, 7, 9]) (by kernel_rfl) (by simp) ?_
    refine conA (fun K hK => ?_) ?_
    · (try rw [HWZ.out])
      go_simp
      have hb := Below.alloc (Below.refl wz.heap.size wz) (Nat.le_refl _) (.cells cW 3)
      have kW := Blk.new wz 3 cW
      have hlW := hBB.size
      obtain ⟨gW, hgg⟩ : ∃ g, wz.heap.size = g := ⟨_, rfl⟩
      obtain ⟨wz, hwy⟩ : ∃ z, wz.alloc (.cells cW 3) = z := ⟨_, rfl⟩
      rw [hwy] at hb kW ⊢
      rw [hgg] at kW hlW ⊢
      (try replace kT := kT.keep hb)
      (try replace kG := kG.keep hb)
      replace hBB := hBB.trans (hb.mono hBB.size)
      clear hb hgg hwy
      refine hK.out _ _ ?_ (fun hbr2b7 => ?_)
      · exact HS.out _ hBB
      clear hK K hbr
      try simp only [Act.put, List.setIfInBounds_toArray, List.set_cons_zero, List.set_cons_succ]
      refine wpAnyH_ready (rs := [7, 9]) (by kernel_rfl) (by simp) ?_
      refine conA (fun K hK => ?_) ?_
      · (try rw [HWZ.out])
        go_simp
        have hb := Below.alloc (Below.refl wz.heap.size wz) (Nat.le_refl _) (.cells cT 46)
        have kT := Blk.new wz 46 cT
        have hlT := hBB.size
        obtain ⟨gT, hgg⟩ : ∃ g, wz.heap.size = g := ⟨_, rfl⟩
        obtain ⟨wz, hwy⟩ : ∃ z, wz.alloc (.cells cT 46) = z := ⟨_, rfl⟩
        rw [hwy] at hb kT ⊢
        rw [hgg] at kT hlT ⊢
        (try replace kW := kW.keep hb)
        (try replace kG := kG.keep hb)
        replace hBB := hBB.trans (hb.mono hBB.size)
        clear hb hgg hwy
        refine hK.out _ _ ?_ (fun hbr7b8 => ?_)
        · exact HS.out _ hBB
        clear hK K hbr2b7
        try simp only [Act.put, List.setIfInBounds_toArray, List.set_cons_zero, List.set_cons_succ]
        refine tkA 8 ?_
        refine stA 9 (fun K hK => ?_)
        (try rw [HWZ.out])
        go_simp
        have hb := Below.alloc (Below.refl wz.heap.size wz) (Nat.le_refl _) (.cells #[.slice none 0 0, .int .i64 0, .int .i64 0, .slice none 0 0, .slice none 0 0, .slice none 0 0, .int .i64 0] 34)
        have kG := Blk.new wz 34 #[.slice none 0 0, .int .i64 0, .int .i64 0, .slice none 0 0, .slice none 0 0, .slice none 0 0, .int .i64 0]
        have hlG := hBB.size
        obtain ⟨g, hgg⟩ : ∃ g, wz.heap.size = g := ⟨_, rfl⟩
        obtain ⟨wz, hwy⟩ : ∃ z, wz.alloc (.cells #[.slice none 0 0, .int .i64 0, .int .i64 0, .slice none 0 0, .slice none 0 0, .slice none 0 0, .int .i64 0] 34) = z := ⟨_, rfl⟩
        rw [hwy] at hb kG ⊢
        rw [hgg] at kG hlG ⊢
        (try replace kW := kW.keep hb)
        (try replace kT := kT.keep hb)
        replace hBB := hBB.trans (hb.mono hBB.size)
        clear hb hgg hwy
        refine hK.out _ _ ?_ (fun hbr9b10 => ?_)
        · exact HS.out _ hBB
        clear hK K hbr7b8
        try simp only [Act.put, List.setIfInBounds_toArray, List.set_cons_zero, List.set_cons_succ]
        refine stA 10 (fun K hK => ?_)
        refine step_store_box g 34 _ kG [.slice (some ⟨gW, 0, none⟩) words words, .int .i64 0, .int .i64 mx, .slice A2 words c2, .slice (some ⟨gT, 0, none⟩) n n, .slice none 0 0, .int .i64 0] rfl mem_size7 (by simp [Value.oneCell']) (.tmp 9) (.tmp 32) (by rfl) rfl rfl rfl ?_
        rintro wz kG2 hgz
        have kW2 := kW.grown hgz (fun e => by injection e with e; rw [e] at kW; exact absurd (blk_ne kW kG) (by decide))
        have kT2 := kT.grown hgz (fun e => by injection e with e; rw [e] at kT; exact absurd (blk_ne kT kG) (by decide))
        replace hBB := hBB.grown hgz hBB.size (fun k hk => by injection hk with hk; omega)
        clear hgz kG
        refine hK.out _ _ ?_ (fun hbr10b11 => ?_)
        · exact HS.out _ hBB
        clear hK K hbr9b10
        try simp only [Act.put, List.setIfInBounds_toArray, List.set_cons_zero, List.set_cons_succ]
        refine wpAnyH_done (by kernel_rfl) ?_ _
        go_wp2_with fail
        go_meet
        exact ⟨g, rfl, (show Hid _ from ⟨_, ref_init (HB13.out.trans (hBB.mono HB13.out.size)) (Nat.le_trans HB13.out.size hlG) (Nat.le_trans HB13.out.size hlW) (Nat.le_trans HB13.out.size hlT) hp4 hw8 kG2 (HCW.out ▸ kW2) (HCT.out ▸ kT2) (own_below HROW3.out hBB)⟩)⟩
      refine conA (fun K hK => ?_) ?_
      · (try rw [HWZ.out])
        go_simp
        have hb := Below.alloc (Below.refl wz.heap.size wz) (Nat.le_refl _) (.cells #[.slice none 0 0, .int .i64 0, .int .i64 0, .slice none 0 0, .slice none 0 0, .slice none 0 0, .int .i64 0] 34)
        have kG := Blk.new wz 34 #[.slice none 0 0, .int .i64 0, .int .i64 0, .slice none 0 0, .slice none 0 0, .slice none 0 0, .int .i64 0]
        have hlG := hBB.size
        obtain ⟨g, hgg⟩ : ∃ g, wz.heap.size = g := ⟨_, rfl⟩
        obtain ⟨wz, hwy⟩ : ∃ z, wz.alloc (.cells #[.slice none 0 0, .int .i64 0, .int .i64 0, .slice none 0 0, .slice none 0 0, .slice none 0 0, .int .i64 0] 34) = z := ⟨_, rfl⟩
        rw [hwy] at hb kG ⊢
        rw [hgg] at kG hlG ⊢
        (try replace kW := kW.keep hb)
        (try replace kT := kT.keep hb)
        replace hBB := hBB.trans (hb.mono hBB.size)
        clear hb hgg hwy
        refine hK.out _ _ ?_ (fun hbr9b12 => ?_)
        · exact HS.out _ hBB
        clear hK K hbr2b7
        try simp only [Act.put, List.setIfInBounds_toArray, List.set_cons_zero, List.set_cons_succ]
        refine stA 7 (fun K hK => ?_)
        (try rw [HWZ.out])
        go_simp
        have hb := Below.alloc (Below.refl wz.heap.size wz) (Nat.le_refl _) (.cells cT 46)
        have kT := Blk.new wz 46 cT
        have hlT := hBB.size
        obtain ⟨gT, hgg⟩ : ∃ g, wz.heap.size = g := ⟨_, rfl⟩
        obtain ⟨wz, hwy⟩ : ∃ z, wz.alloc (.cells cT 46) = z := ⟨_, rfl⟩
        rw [hwy] at hb kT ⊢
        rw [hgg] at kT hlT ⊢
        (try replace kW := kW.keep hb)
        (try replace kG := kG.keep hb)
        replace hBB := hBB.trans (hb.mono hBB.size)
        clear hb hgg hwy
        refine hK.out _ _ ?_ (fun hbr7b13 => ?_)
        · exact HS.out _ hBB
        clear hK K hbr9b12
        try simp only [Act.put, List.setIfInBounds_toArray, List.set_cons_zero, List.set_cons_succ]
        refine tkA 8 ?_
        refine stA 10 (fun K hK => ?_)
        refine step_store_box g 34 _ kG [.slice (some ⟨gW, 0, none⟩) words words, .int .i64 0, .int .i64 mx, .slice A2 words c2, .slice (some ⟨gT, 0, none⟩) n n, .slice none 0 0, .int .i64 0] rfl mem_size7 (by simp [Value.oneCell']) (.tmp 9) (.tmp 32) (by rfl) rfl rfl rfl ?_
        rintro wz kG2 hgz
        have kW2 := kW.grown hgz (fun e => by injection e with e; rw [e] at kW; exact absurd (blk_ne kW kG) (by decide))
        have kT2 := kT.grown hgz (fun e => by injection e with e; rw [e] at kT; exact absurd (blk_ne kT kG) (by decide))
        replace hBB := hBB.grown hgz hBB.size (fun k hk => by injection hk with hk; omega)
        clear hgz kG
        refine hK.out _ _ ?_ (fun hbr10b15 => ?_)
        · exact HS.out _ hBB
        clear hK K hbr7b13
        try simp only [Act.put, List.setIfInBounds_toArray, List.set_cons_zero, List.set_cons_succ]
        refine wpAnyH_done (by kernel_rfl) ?_ _
        go_wp2_with fail
        go_meet
        exact ⟨g, rfl, (show Hid _ from ⟨_, ref_init (HB13.out.trans (hBB.mono HB13.out.size)) (Nat.le_trans HB13.out.size hlG) (Nat.le_trans HB13.out.size hlW) (Nat.le_trans HB13.out.size hlT) hp4 hw8 kG2 (HCW.out ▸ kW2) (HCT.out ▸ kT2) (own_below HROW3.out hBB)⟩)⟩
      exact AllReadyH.nil
    refine conA (fun K hK => ?_) ?_
    · (try rw [HWZ.out])
      go_simp
      have hb := Below.alloc (Below.refl wz.heap.size wz) (Nat.le_refl _) (.cells cT 46)
      have kT := Blk.new wz 46 cT
      have hlT := hBB.size
      obtain ⟨gT, hgg⟩ : ∃ g, wz.heap.size = g := ⟨_, rfl⟩
      obtain ⟨wz, hwy⟩ : ∃ z, wz.alloc (.cells cT 46) = z := ⟨_, rfl⟩
      rw [hwy] at hb kT ⊢
      rw [hgg] at kT hlT ⊢
      (try replace kW := kW.keep hb)
      (try replace kG := kG.keep hb)
      replace hBB := hBB.trans (hb.mono hBB.size)
      clear hb hgg hwy
      refine hK.out _ _ ?_ (fun hbr7b16 => ?_)
      · exact HS.out _ hBB
      clear hK K hbr
      try simp only [Act.put, List.setIfInBounds_toArray, List.set_cons_zero, List.set_cons_succ]
      refine wpAnyH_ready (rs := [2, 9]) (by kernel_rfl) (by simp) ?_
      refine conA (fun K hK => ?_) ?_
      · (try rw [HWZ.out])
        go_simp
        have hb := Below.alloc (Below.refl wz.heap.size wz) (Nat.le_refl _) (.cells cW 3)
        have kW := Blk.new wz 3 cW
        have hlW := hBB.size
        obtain ⟨gW, hgg⟩ : ∃ g, wz.heap.size = g := ⟨_, rfl⟩
        obtain ⟨wz, hwy⟩ : ∃ z, wz.alloc (.cells cW 3) = z := ⟨_, rfl⟩
        rw [hwy] at hb kW ⊢
        rw [hgg] at kW hlW ⊢
        (try replace kT := kT.keep hb)
        (try replace kG := kG.keep hb)
        replace hBB := hBB.trans (hb.mono hBB.size)
        clear hb hgg hwy
        refine hK.out _ _ ?_ (fun hbr2b17 => ?_)
        · exact HS.out _ hBB
        clear hK K hbr7b16
        try simp only [Act.put, List.setIfInBounds_toArray, List.set_cons_zero, List.set_cons_succ]
        refine tkA 8 ?_
        refine stA 9 (fun K hK => ?_)
        (try rw [HWZ.out])
        go_simp
        have hb := Below.alloc (Below.refl wz.heap.size wz) (Nat.le_refl _) (.cells #[.slice none 0 0, .int .i64 0, .int .i64 0, .slice none 0 0, .slice none 0 0, .slice none 0 0, .int .i64 0] 34)
        have kG := Blk.new wz 34 #[.slice none 0 0, .int .i64 0, .int .i64 0, .slice none 0 0, .slice none 0 0, .slice none 0 0, .int .i64 0]
        have hlG := hBB.size
        obtain ⟨g, hgg⟩ : ∃ g, wz.heap.size = g := ⟨_, rfl⟩
        obtain ⟨wz, hwy⟩ : ∃ z, wz.alloc (.cells #[.slice none 0 0, .int .i64 0, .int .i64 0, .slice none 0 0, .slice none 0 0, .slice none 0 0, .int .i64 0] 34) = z := ⟨_, rfl⟩
        rw [hwy] at hb kG ⊢
        rw [hgg] at kG hlG ⊢
        (try replace kW := kW.keep hb)
        (try replace kT := kT.keep hb)
        replace hBB := hBB.trans (hb.mono hBB.size)
        clear hb hgg hwy
        refine hK.out _ _ ?_ (fun hbr9b19 => ?_)
        · exact HS.out _ hBB
        clear hK K hbr2b17
        try simp only [Act.put, List.setIfInBounds_toArray, List.set_cons_zero, List.set_cons_succ]
        refine stA 10 (fun K hK => ?_)
        refine step_store_box g 34 _ kG [.slice (some ⟨gW, 0, none⟩) words words, .int .i64 0, .int .i64 mx, .slice A2 words c2, .slice (some ⟨gT, 0, none⟩) n n, .slice none 0 0, .int .i64 0] rfl mem_size7 (by simp [Value.oneCell']) (.tmp 9) (.tmp 32) (by rfl) rfl rfl rfl ?_
        rintro wz kG2 hgz
        have kW2 := kW.grown hgz (fun e => by injection e with e; rw [e] at kW; exact absurd (blk_ne kW kG) (by decide))
        have kT2 := kT.grown hgz (fun e => by injection e with e; rw [e] at kT; exact absurd (blk_ne kT kG) (by decide))
        replace hBB := hBB.grown hgz hBB.size (fun k hk => by injection hk with hk; omega)
        clear hgz kG
        refine hK.out _ _ ?_ (fun hbr10b20 => ?_)
        · exact HS.out _ hBB
        clear hK K hbr9b19
        try simp only [Act.put, List.setIfInBounds_toArray, List.set_cons_zero, List.set_cons_succ]
        refine wpAnyH_done (by kernel_rfl) ?_ _
        go_wp2_with fail
        go_meet
        exact ⟨g, rfl, (show Hid _ from ⟨_, ref_init (HB13.out.trans (hBB.mono HB13.out.size)) (Nat.le_trans HB13.out.size hlG) (Nat.le_trans HB13.out.size hlW) (Nat.le_trans HB13.out.size hlT) hp4 hw8 kG2 (HCW.out ▸ kW2) (HCT.out ▸ kT2) (own_below HROW3.out hBB)⟩)⟩
      refine conA (fun K hK => ?_) ?_
      · (try rw [HWZ.out])
        go_simp
        have hb := Below.alloc (Below.refl wz.heap.size wz) (Nat.le_refl _) (.cells #[.slice none 0 0, .int .i64 0, .int .i64 0, .slice none 0 0, .slice none 0 0, .slice none 0 0, .int .i64 0] 34)
        have kG := Blk.new wz 34 #[.slice none 0 0, .int .i64 0, .int .i64 0, .slice none 0 0, .slice none 0 0, .slice none 0 0, .int .i64 0]
        have hlG := hBB.size
        obtain ⟨g, hgg⟩ : ∃ g, wz.heap.size = g := ⟨_, rfl⟩
        obtain ⟨wz, hwy⟩ : ∃ z, wz.alloc (.cells #[.slice none 0 0, .int .i64 0, .int .i64 0, .slice none 0 0, .slice none 0 0, .slice none 0 0, .int .i64 0] 34) = z := ⟨_, rfl⟩
        rw [hwy] at hb kG ⊢
        rw [hgg] at kG hlG ⊢
        (try replace kW := kW.keep hb)
        (try replace kT := kT.keep hb)
        replace hBB := hBB.trans (hb.mono hBB.size)
        clear hb hgg hwy
        refine hK.out _ _ ?_ (fun hbr9b21 => ?_)
        · exact HS.out _ hBB
        clear hK K hbr7b16
        try simp only [Act.put, List.setIfInBounds_toArray, List.set_cons_zero, List.set_cons_succ]
        refine stA 2 (fun K hK => ?_)
        (try rw [HWZ.out])
        go_simp
        have hb := Below.alloc (Below.refl wz.heap.size wz) (Nat.le_refl _) (.cells cW 3)
        have kW := Blk.new wz 3 cW
        have hlW := hBB.size
        obtain ⟨gW, hgg⟩ : ∃ g, wz.heap.size = g := ⟨_, rfl⟩
        obtain ⟨wz, hwy⟩ : ∃ z, wz.alloc (.cells cW 3) = z := ⟨_, rfl⟩
        rw [hwy] at hb kW ⊢
        rw [hgg] at kW hlW ⊢
        (try replace kT := kT.keep hb)
        (try replace kG := kG.keep hb)
        replace hBB := hBB.trans (hb.mono hBB.size)
        clear hb hgg hwy
        refine hK.out _ _ ?_ (fun hbr2b22 => ?_)
        · exact HS.out _ hBB
        clear hK K hbr9b21
        try simp only [Act.put, List.setIfInBounds_toArray, List.set_cons_zero, List.set_cons_succ]
        refine tkA 8 ?_
        refine stA 10 (fun K hK => ?_)
        refine step_store_box g 34 _ kG [.slice (some ⟨gW, 0, none⟩) words words, .int .i64 0, .int .i64 mx, .slice A2 words c2, .slice (some ⟨gT, 0, none⟩) n n, .slice none 0 0, .int .i64 0] rfl mem_size7 (by simp [Value.oneCell']) (.tmp 9) (.tmp 32) (by rfl) rfl rfl rfl ?_
        rintro wz kG2 hgz
        have kW2 := kW.grown hgz (fun e => by injection e with e; rw [e] at kW; exact absurd (blk_ne kW kG) (by decide))
        have kT2 := kT.grown hgz (fun e => by injection e with e; rw [e] at kT; exact absurd (blk_ne kT kG) (by decide))
        replace hBB := hBB.grown hgz hBB.size (fun k hk => by injection hk with hk; omega)
        clear hgz kG
        refine hK.out _ _ ?_ (fun hbr10b24 => ?_)
        · exact HS.out _ hBB
        clear hK K hbr2b22
        try simp only [Act.put, List.setIfInBounds_toArray, List.set_cons_zero, List.set_cons_succ]
        refine wpAnyH_done (by kernel_rfl) ?_ _
        go_wp2_with fail
        go_meet
        exact ⟨g, rfl, (show Hid _ from ⟨_, ref_init (HB13.out.trans (hBB.mono HB13.out.size)) (Nat.le_trans HB13.out.size hlG) (Nat.le_trans HB13.out.size hlW) (Nat.le_trans HB13.out.size hlT) hp4 hw8 kG2 (HCW.out ▸ kW2) (HCT.out ▸ kT2) (own_below HROW3.out hBB)⟩)⟩
      exact AllReadyH.nil
    refine conA (fun K hK => ?_) ?_
    · (try rw [HWZ.out])
      go_simp
      have hb := Below.alloc (Below.refl wz.heap.size wz) (Nat.le_refl _) (.cells #[.slice none 0 0, .int .i64 0, .int .i64 0, .slice none 0 0, .slice none 0 0, .slice none 0 0, .int .i64 0] 34)
      have kG := Blk.new wz 34 #[.slice none 0 0, .int .i64 0, .int .i64 0, .slice none 0 0, .slice none 0 0, .slice none 0 0, .int .i64 0]
      have hlG := hBB.size
      obtain ⟨g, hgg⟩ : ∃ g, wz.heap.size = g := ⟨_, rfl⟩
      obtain ⟨wz, hwy⟩ : ∃ z, wz.alloc (.cells #[.slice none 0 0, .int .i64 0, .int .i64 0, .slice none 0 0, .slice none 0 0, .slice none 0 0, .int .i64 0] 34) = z := ⟨_, rfl⟩
      rw [hwy] at hb kG ⊢
      rw [hgg] at kG hlG ⊢
      (try replace kW := kW.keep hb)
      (try replace kT := kT.keep hb)
      replace hBB := hBB.trans (hb.mono hBB.size)
      clear hb hgg hwy
      refine hK.out _ _ ?_ (fun hbr9b25 => ?_)
      · exact HS.out _ hBB
      clear hK K hbr
      try simp only [Act.put, List.setIfInBounds_toArray, List.set_cons_zero, List.set_cons_succ]
      refine wpAnyH_ready (rs := [2, 7]) (by kernel_rfl) (by simp) ?_
      refine conA (fun K hK => ?_) ?_
      · (try rw [HWZ.out])
        go_simp
        have hb := Below.alloc (Below.refl wz.heap.size wz) (Nat.le_refl _) (.cells cW 3)
        have kW := Blk.new wz 3 cW
        have hlW := hBB.size
        obtain ⟨gW, hgg⟩ : ∃ g, wz.heap.size = g := ⟨_, rfl⟩
        obtain ⟨wz, hwy⟩ : ∃ z, wz.alloc (.cells cW 3) = z := ⟨_, rfl⟩
        rw [hwy] at hb kW ⊢
        rw [hgg] at kW hlW ⊢
        (try replace kT := kT.keep hb)
        (try replace kG := kG.keep hb)
        replace hBB := hBB.trans (hb.mono hBB.size)
        clear hb hgg hwy
        refine hK.out _ _ ?_ (fun hbr2b26 => ?_)
        · exact HS.out _ hBB
        clear hK K hbr9b25
        try simp only [Act.put, List.setIfInBounds_toArray, List.set_cons_zero, List.set_cons_succ]
        refine stA 7 (fun K hK => ?_)
        (try rw [HWZ.out])
        go_simp
        have hb := Below.alloc (Below.refl wz.heap.size wz) (Nat.le_refl _) (.cells cT 46)
        have kT := Blk.new wz 46 cT
        have hlT := hBB.size
        obtain ⟨gT, hgg⟩ : ∃ g, wz.heap.size = g := ⟨_, rfl⟩
        obtain ⟨wz, hwy⟩ : ∃ z, wz.alloc (.cells cT 46) = z := ⟨_, rfl⟩
        rw [hwy] at hb kT ⊢
        rw [hgg] at kT hlT ⊢
        (try replace kW := kW.keep hb)
        (try replace kG := kG.keep hb)
        replace hBB := hBB.trans (hb.mono hBB.size)
        clear hb hgg hwy
        refine hK.out _ _ ?_ (fun hbr7b27 => ?_)
        · exact HS.out _ hBB
        clear hK K hbr2b26
        try simp only [Act.put, List.setIfInBounds_toArray, List.set_cons_zero, List.set_cons_succ]
        refine tkA 8 ?_
        refine stA 10 (fun K hK => ?_)
        refine step_store_box g 34 _ kG [.slice (some ⟨gW, 0, none⟩) words words, .int .i64 0, .int .i64 mx, .slice A2 words c2, .slice (some ⟨gT, 0, none⟩) n n, .slice none 0 0, .int .i64 0] rfl mem_size7 (by simp [Value.oneCell']) (.tmp 9) (.tmp 32) (by rfl) rfl rfl rfl ?_
        rintro wz kG2 hgz
        have kW2 := kW.grown hgz (fun e => by injection e with e; rw [e] at kW; exact absurd (blk_ne kW kG) (by decide))
        have kT2 := kT.grown hgz (fun e => by injection e with e; rw [e] at kT; exact absurd (blk_ne kT kG) (by decide))
        replace hBB := hBB.grown hgz hBB.size (fun k hk => by injection hk with hk; omega)
        clear hgz kG
        refine hK.out _ _ ?_ (fun hbr10b29 => ?_)
        · exact HS.out _ hBB
        clear hK K hbr7b27
        try simp only [Act.put, List.setIfInBounds_toArray, List.set_cons_zero, List.set_cons_succ]
        refine wpAnyH_done (by kernel_rfl) ?_ _
        go_wp2_with fail
        go_meet
        exact ⟨g, rfl, (show Hid _ from ⟨_, ref_init (HB13.out.trans (hBB.mono HB13.out.size)) (Nat.le_trans HB13.out.size hlG) (Nat.le_trans HB13.out.size hlW) (Nat.le_trans HB13.out.size hlT) hp4 hw8 kG2 (HCW.out ▸ kW2) (HCT.out ▸ kT2) (own_below HROW3.out hBB)⟩)⟩
      refine conA (fun K hK => ?_) ?_
      · (try rw [HWZ.out])
        go_simp
        have hb := Below.alloc (Below.refl wz.heap.size wz) (Nat.le_refl _) (.cells cT 46)
        have kT := Blk.new wz 46 cT
        have hlT := hBB.size
        obtain ⟨gT, hgg⟩ : ∃ g, wz.heap.size = g := ⟨_, rfl⟩
        obtain ⟨wz, hwy⟩ : ∃ z, wz.alloc (.cells cT 46) = z := ⟨_, rfl⟩
        rw [hwy] at hb kT ⊢
        rw [hgg] at kT hlT ⊢
        (try replace kW := kW.keep hb)
        (try replace kG := kG.keep hb)
        replace hBB := hBB.trans (hb.mono hBB.size)
        clear hb hgg hwy
        refine hK.out _ _ ?_ (fun hbr7b30 => ?_)
        · exact HS.out _ hBB
        clear hK K hbr9b25
        try simp only [Act.put, List.setIfInBounds_toArray, List.set_cons_zero, List.set_cons_succ]
        refine stA 2 (fun K hK => ?_)
        (try rw [HWZ.out])
        go_simp
        have hb := Below.alloc (Below.refl wz.heap.size wz) (Nat.le_refl _) (.cells cW 3)
        have kW := Blk.new wz 3 cW
        have hlW := hBB.size
        obtain ⟨gW, hgg⟩ : ∃ g, wz.heap.size = g := ⟨_, rfl⟩
        obtain ⟨wz, hwy⟩ : ∃ z, wz.alloc (.cells cW 3) = z := ⟨_, rfl⟩
        rw [hwy] at hb kW ⊢
        rw [hgg] at kW hlW ⊢
        (try replace kT := kT.keep hb)
        (try replace kG := kG.keep hb)
        replace hBB := hBB.trans (hb.mono hBB.size)
        clear hb hgg hwy
        refine hK.out _ _ ?_ (fun hbr2b31 => ?_)
        · exact HS.out _ hBB
        clear hK K hbr7b30
        try simp only [Act.put, List.setIfInBounds_toArray, List.set_cons_zero, List.set_cons_succ]
        refine tkA 8 ?_
        refine stA 10 (fun K hK => ?_)
        refine step_store_box g 34 _ kG [.slice (some ⟨gW, 0, none⟩) words words, .int .i64 0, .int .i64 mx, .slice A2 words c2, .slice (some ⟨gT, 0, none⟩) n n, .slice none 0 0, .int .i64 0] rfl mem_size7 (by simp [Value.oneCell']) (.tmp 9) (.tmp 32) (by rfl) rfl rfl rfl ?_
        rintro wz kG2 hgz
        have kW2 := kW.grown hgz (fun e => by injection e with e; rw [e] at kW; exact absurd (blk_ne kW kG) (by decide))
        have kT2 := kT.grown hgz (fun e => by injection e with e; rw [e] at kT; exact absurd (blk_ne kT kG) (by decide))
        replace hBB := hBB.grown hgz hBB.size (fun k hk => by injection hk with hk; omega)
        clear hgz kG
        refine hK.out _ _ ?_ (fun hbr10b33 => ?_)
        · exact HS.out _ hBB
        clear hK K hbr2b31
        try simp only [Act.put, List.setIfInBounds_toArray, List.set_cons_zero, List.set_cons_succ]
        refine wpAnyH_done (by kernel_rfl) ?_ _
        go_wp2_with fail
        go_meet
        exact ⟨g, rfl, (show Hid _ from ⟨_, ref_init (HB13.out.trans (hBB.mono HB13.out.size)) (Nat.le_trans HB13.out.size hlG) (Nat.le_trans HB13.out.size hlW) (Nat.le_trans HB13.out.size hlT) hp4 hw8 kG2 (HCW.out ▸ kW2) (HCT.out ▸ kT2) (own_below HROW3.out hBB)⟩)⟩
      exact AllReadyH.nil
    exact AllReadyH.nil
  case rest =>
    obtain ⟨r, rfl, HRI⟩ := hcut
    obtain ⟨a0, hR0⟩ := HRI.out
    have HR0 := Lib.hid hR0
    clear hR0 HRI
    have HP := Lib.hid (fun W (hb : Below w1.heap.size w1 W) => (show W.cell? ⟨w.heap.size, 0, none⟩ = some (.int .i64 (words : Int)) ∧ W.cell? ⟨w.heap.size, 1, none⟩ = some (.int .i64 mx) ∧ W.cell? ⟨w.heap.size, 2, none⟩ = some (.slice A n c) from ⟨by rw [(HK2a.out.keep hb).cell]; rfl, by rw [(HK2a.out.keep hb).cell]; rfl, by rw [(HK2a.out.keep hb).cell]; rfl⟩))
    go_wp2_with fail
    go_loopg [10] np (fun gg s10 wr => ∃ i : Nat, s10 = .int .i64 i ∧ i ≤ np ∧ np - i ≤ gg ∧ Hid (∃ a m, RefW w1 wr r a m ∧ m.er = (runFrom pl (initM words mx n) (picks.take i)).er))
    case atStart => exact ⟨0, by go_num, by omega, by omega, (show Hid _ from ⟨_, _, HR0.out, rfl⟩)⟩
    case round =>
      obtain ⟨i, rfl, hin, hg, HI⟩ := hrel
      obtain ⟨a, m, hR, hme⟩ := HI.out
      have hgood := runFrom_good HPO.out (picks.take i) (initM words mx n) (by rw [HN.out]; exact good_init HPO.out)
      have hgm : Good words pl m := good_er (by rw [hme]; exact good_er2 hgood.1)
      have hmt : m.time = (i : Int) := by
        have e1 : m.er.time = m.time := rfl
        have e2 : (runFrom pl (initM words mx n) (picks.take i)).er.time = (runFrom pl (initM words mx n) (picks.take i)).time := rfl
        rw [← e1, hme, e2, hgood.2, List.length_take]
        simp [initM]
        have := HNP.out
        omega
      have HG := Lib.hid hgm
      have HR := Lib.hid hR
      have HME := Lib.hid hme
      have HMT := Lib.hid hmt
      clear hgood hgm hR hme hmt HR0
      by_cases hlt : i < np
      · have hltz : (i : Int) < (np : Int) := by omega
        have hi0 : (0 : Int) ≤ (i : Int) := by omega
        have hil : i < picks.length := by rw [← HNP.out]; exact hlt
        obtain ⟨bk, ok, eAk, hbk, hel⟩ := HKP.out (by omega)
        subst eAk
        have HEL := Lib.hid (fun W (hb : Below w1.heap.size w1 W) => (show W.cell? ⟨bk, ok + i, none⟩ = some (.int .i64 picks[i]) from by have := hel W (HB1.out.trans (hb.mono HB1.out.size)) i hil 0 _ rfl; simpa using this))
        have HTK := Lib.hid (List.take_succ_eq_append_getElem hil)
        generalize picks[i] = q at *
        have hH1000 : m.H.length ≤ 1000 := by have := HG.out.h; have := HMT.out; omega
        have HST := Lib.hid (fun W (hb : Below wr.heap.size wr W) => rstep_any (HR.out.keep hb) (words : Int) mx (.slice A n c) (by rw [HN.out]; exact HPL.out.below (HB1.out.trans ((HR.out.base.trans (hb.mono HR.out.base.size)).mono HB1.out.size))) HPO.out HG.out hH1000 q)
        simp only [planV] at HST
        clear hel hH1000
        go_upto_region 9 with fail
        refine wp_region_held_drew (S := fun W => W.cell? ⟨w.heap.size, 0, none⟩ = some (.int .i64 (words : Int)) ∧ W.cell? ⟨w.heap.size, 1, none⟩ = some (.int .i64 mx) ∧ W.cell? ⟨w.heap.size, 2, none⟩ = some (.slice A n c) ∧ W.cell? ⟨bk, ok + i, none⟩ = some (.int .i64 q)) (by kernel_rfl) ?_ (fun hcr => ?_)
        · exact ⟨(HP.out _ HR.out.base.drew).1, (HP.out _ HR.out.base.drew).2.1, (HP.out _ HR.out.base.drew).2.2, HEL.out _ HR.out.base.drew⟩
        refine tkA 0 ?_
        refine tkA 1 ?_
        refine tkA 2 ?_
        refine tkA 3 ?_
        refine tkA 4 ?_
        refine stA 5 (fun K hK => ?_)
        go_simp
        refine (HST.out _ (Below.refl _ _).drew).mono ?_
        rintro e w5 ⟨rfl, a5, m5, h5, e5⟩
        have H5 := Lib.hid h5
        have HE5 := Lib.hid e5
        clear h5 e5
        try go_wp2_with fail
        refine hK.out _ _ ?_ (fun hcr5 => ?_)
        · exact ⟨(HP.out _ H5.out.base).1, (HP.out _ H5.out.base).2.1, (HP.out _ H5.out.base).2.2, HEL.out _ H5.out.base⟩
        clear hK K hcr
        try simp only [Act.put, List.setIfInBounds_toArray, List.set_cons_zero, List.set_cons_succ]
        refine wpAnyH_done (by kernel_rfl) ?_ _
        have hm5 : m5.time = (i : Int) := by
          have e1 : m5.er.time = m5.time := rfl
          have e2 : (stepM pl m q).er.time = (stepM pl m q).time := rfl
          rw [← e1, HE5.out, e2, time_step, HMT.out]
        have HM5 := Lib.hid hm5
        have r6 : w5.cell? ⟨r, 6, none⟩ = some (.int .i64 (i : Int)) := by rw [← hm5]; exact H5.out.rcells 6
        have rf6 := H5.out.run.free 6
        have rl := H5.out.run.lt
        have hwr : IntKind.i64.wrap ((i : Int) + 1) = (i : Int) + 1 := by rw [IntKind.wrap_i64]; omega
        clear hm5
        go_wp2
        go_roundg (np - (i + 1))
        case measure => omega
        case rel =>
          have h6 := H5.out.rcell (m' := timeM m5) (a' := a5) (j := 6) (u := .int .i64 ((i : Int) + 1)) (by unfold memCells timeM; rw [HM5.out]; rfl) ⟨H5.out.o.W, H5.out.o.L, H5.out.o.T, H5.out.o.H, H5.out.o.ts, H5.out.o.hs⟩
          refine ⟨i + 1, by go_num, by omega, by omega, (show Hid _ from ⟨_, _, h6, ?_⟩)⟩
          rw [HTK.out, runFrom_snoc, er_time, er_time, HE5.out, er_step, er_step, HME.out]
      · obtain rfl : np = i := by omega
        rw [List.take_of_length_le (by rw [← HNP.out]; exact Nat.le_refl _)] at HME
        have hk := HK4a.out.keep HR.out.base
        have z0 : wr.cell? ⟨w.heap.size + 1, 0, none⟩ = some (.slice none 0 0) := by rw [hk.cell]; rfl
        have z1 : wr.cell? ⟨w.heap.size + 1, 1, none⟩ = some (.int .i64 0) := by rw [hk.cell]; rfl
        have z2 : wr.cell? ⟨w.heap.size + 1, 2, none⟩ = some (.int .i64 0) := by rw [hk.cell]; rfl
        have z3 : wr.cell? ⟨w.heap.size + 1, 3, none⟩ = some (.slice none 0 0) := by rw [hk.cell]; rfl
        have z4 : wr.cell? ⟨w.heap.size + 1, 4, none⟩ = some (.slice none 0 0) := by rw [hk.cell]; rfl
        have z5 : wr.cell? ⟨w.heap.size + 1, 5, none⟩ = some (.slice none 0 0) := by rw [hk.cell]; rfl
        have z6 : wr.cell? ⟨w.heap.size + 1, 6, none⟩ = some (.int .i64 0) := by rw [hk.cell]; rfl
        have zf := hk.free
        have zl := hk.lt
        have q0 : wr.cell? ⟨r, 0, none⟩ = some (.slice (some ⟨a.gW, 0, none⟩) m.W.length a.cW) := HR.out.rcells 0
        have q1 : wr.cell? ⟨r, 1, none⟩ = some (.int .i64 m.now) := HR.out.rcells 1
        have q2 : wr.cell? ⟨r, 2, none⟩ = some (.int .i64 m.mx) := HR.out.rcells 2
        have q3 : wr.cell? ⟨r, 3, none⟩ = some (.slice a.lA m.L.length a.lc) := HR.out.rcells 3
        have q4 : wr.cell? ⟨r, 4, none⟩ = some (.slice (some ⟨a.gT, 0, none⟩) m.T.length a.cT) := HR.out.rcells 4
        have q5 : wr.cell? ⟨r, 5, none⟩ = some (.slice a.hA m.H.length a.hc) := HR.out.rcells 5
        have q6 : wr.cell? ⟨r, 6, none⟩ = some (.int .i64 m.time) := HR.out.rcells 6
        have hg0 := HR.out.rge
        have hz1 := HZ1.out
        have hne1 : ¬ r = w.heap.size + 1 := by omega
        have hne2 : ¬ w.heap.size + 1 = r := by omega
        clear hk
        go_wp2
        refine bodyPost_ret (v := .tuple #[.agg #[.slice (some ⟨a.gW, 0, none⟩) m.W.length a.cW, .int .i64 m.now, .int .i64 m.mx, .slice a.lA m.L.length a.lc, .slice (some ⟨a.gT, 0, none⟩) m.T.length a.cT, .slice a.hA m.H.length a.hc, .int .i64 m.time], .bool true]) (by simp [results, Try.results13, go_sem, *]) rfl ?_
        have hz9 : w.heap.size + 1 < w1.heap.size := by omega
        refine ⟨a, m, rfl, (((((((HR.out.o.far (p := ⟨w.heap.size + 1, 0, none⟩) hz9 _).far (p := ⟨w.heap.size + 1, 1, none⟩) hz9 _).far (p := ⟨w.heap.size + 1, 2, none⟩) hz9 _).far (p := ⟨w.heap.size + 1, 3, none⟩) hz9 _).far (p := ⟨w.heap.size + 1, 4, none⟩) hz9 _).far (p := ⟨w.heap.size + 1, 5, none⟩) hz9 _).far (p := ⟨w.heap.size + 1, 6, none⟩) hz9 _).mem, ?_, ?_⟩
        · rw [HME.out, HN.out]; rfl
        · exact (((((((HB1.out.trans (HR.out.base.mono HB1.out.size)).setCell (by simp) _).setCell (by simp) _).setCell (by simp) _).setCell (by simp) _).setCell (by simp) _).setCell (by simp) _).setCell (by simp) _
end Go.Proofs.Ytngimbfojccikaa
