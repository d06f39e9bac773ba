/- foliateref19: back: printed by rs_back.py. -/
import Derived.Test.YtngimbfojccikaaRsCheckm
namespace Go.Proofs.Ytngimbfojccikaa
set_option linter.unusedSimpArgs false
open Go Go.RowKit
set_option linter.unusedVariables false
set_option maxRecDepth 100000

section
variable {w0 w w' : World} {r : Nat} {a : Ad} {m : Mm}
set_option maxHeartbeats 16000000 in
theorem rback_any {words : Nat} {txs : List (List Ac)} {pl : List (List (List Ac))} {k : Nat} {t : Tx} (h : RefW w0 w r a m) (hk : m.T[k]? = some t) (hg : Good words pl m) (gt : GoodT words txs t) (hst : t.st = 5) (htx : 0 ≤ t.tx ∧ t.tx ≤ 1000) :
    Calls Try.prog 54 #[.pointer (some ⟨r, 0, none⟩), .int .i64 (k : Int)] w (RefP w0 r (backM m k t)) := by
  obtain ⟨x, hx⟩ : ∃ x, t.W[t.i.toNat]? = some x := ⟨_, List.getElem?_eq_getElem (by have h1 := gt.i5 hst; have h2 := gt.i0; omega)⟩
  obtain ⟨q, hq⟩ : ∃ q : Nat, t.i = (q : Int) := ⟨t.i.toNat, by have := gt.i0; omega⟩
  have HSP := Lib.hid (show backM m k t = { m with W := m.W.set x.at_.toNat x.v, L := (giveL m.now m.mx m.L x.at_ k t.wv).2, T := m.T.set k (if t.i + 1 = t.W.length then overT t 0 else { t with i := t.i + 1 }) } from by unfold backM; rw [hx])
  rw [hq, Int.toNat_natCast] at hx
  have HQ := Lib.hid hq
  have hql := (List.getElem?_eq_some_iff.1 hx).1
  obtain ⟨nw, hnw⟩ : ∃ z, z = t.W.length := ⟨_, rfl⟩
  have HNW := Lib.hid hnw
  have hqn : (q : Int) < (nw : Int) := by omega
  have hq0 : (0 : Int) ≤ (q : Int) := by omega
  have hnw9 : nw ≤ 9223372036854775807 := by obtain ⟨_, _, _, h6, h7⟩ := (Sl.of_own (h.ts hk).2).form; unfold maxLen at h7; omega
  have hwa := gt.wa x (List.mem_of_getElem? hx)
  obtain ⟨b, hb⟩ : ∃ b : Nat, x.at_ = (b : Int) := ⟨x.at_.toNat, by omega⟩
  have HBE := Lib.hid hb
  obtain ⟨nW, hnW⟩ : ∃ z, z = m.W.length := ⟨_, rfl⟩
  have HNB := Lib.hid hnW
  have hbW : b < m.W.length := by rw [hg.W]; omega
  have HBW := Lib.hid hbW
  have hb0 : (0 : Int) ≤ (b : Int) := by omega
  have hb1 : (b : Int) < (nW : Int) := by omega
  obtain ⟨xv, hxv⟩ : ∃ z, z = x.v := ⟨_, rfl⟩
  have HXV := Lib.hid hxv
  obtain ⟨bw, ow, ew, hbw, hcw⟩ := Sl.pos encPr encPr_len (Sl.of_own (h.ts hk).2) (by omega)
  have hxw := (List.getElem?_eq_some_iff.1 hx).2
  have HCW := Lib.hid (fun W (hb2 : Below w.heap.size w W) => (show W.cell? ⟨bw, ow + q * 2, none⟩ = some (.int .i64 (b : Int)) ∧ W.cell? ⟨bw, ow + q * 2 + 1, none⟩ = some (.int .i64 xv) from ⟨by have := hcw W hb2 q hql 0 _ rfl; rw [hxw, hb] at this; simpa using this, by have := hcw W hb2 q hql 1 _ rfl; rw [hxw, ← hxv] at this; exact this⟩))
  have HEW := Lib.hid ew
  have HLL := Lib.hid (show m.L.length ≤ 1000 from by have := (may_iff.1 hg.may).2.2.2.2.1; omega)
  rw [hb] at HSP
  obtain ⟨bv, hbv⟩ : ∃ z, m.W[b]? = some z := ⟨_, List.getElem?_eq_getElem hbW⟩
  have HBV := Lib.hid hbv
  clear hx hxw hcw hbw hg gt hst hq hql hnw ew hwa hb hnW hbW hxv hbv
  have hkl := (List.getElem?_eq_some_iff.1 hk).1
  obtain ⟨n, hn⟩ : ∃ n, n = m.T.length := ⟨_, rfl⟩
  have hk0 : (0 : Int) ≤ (k : Int) := by omega
  have hk1 : (k : Int) < (n : Int) := by omega
  have r4 : w.cell? ⟨r, 4, none⟩ = some (.slice (some ⟨a.gT, 0, none⟩) n a.cT) := by rw [hn]; exact h.rcells 4
  have t0_ := h.tcells hk (j := 0) rfl
  have t1_ := h.tcells hk (j := 1) rfl
  have t2_ := h.tcells hk (j := 2) rfl
  have t3_ := h.tcells hk (j := 3) rfl
  have t4_ := h.tcells hk (j := 4) rfl
  have t5_ := h.tcells hk (j := 5) rfl
  have t6_ := h.tcells hk (j := 6) rfl
  have t7_ := h.tcells hk (j := 7) rfl
  have t8_ := h.tcells hk (j := 8) rfl
  have t9_ := h.tcells hk (j := 9) rfl
  have t10_ := h.tcells hk (j := 10) rfl
  simp only [Nat.add_zero] at t0_
  have hap := h.apart
  have HAP := Lib.hid hap
  have HH := Lib.hid h
  have HK := Lib.hid hk
  have HN := Lib.hid hn
  have kX := Blk.new_ w 46 #[.int .i64 t.st, .int .i64 t.tx, .int .i64 t.try_, .int .i64 t.pc, .int .i64 t.rv, .int .i64 t.wv, .int .i64 t.sum, .slice t.rA t.R.length t.rc, .slice t.wA t.W.length t.wc, .int .i64 t.i, .int .i64 t.fr] _ rfl
  have hbX := Below.alloc (Below.refl w.heap.size w) (Nat.le_refl _) (.cells #[.int .i64 t.st, .int .i64 t.tx, .int .i64 t.try_, .int .i64 t.pc, .int .i64 t.rv, .int .i64 t.wv, .int .i64 t.sum, .slice t.rA t.R.length t.rc, .slice t.wA t.W.length t.wc, .int .i64 t.i, .int .i64 t.fr] 46)
  obtain ⟨wx, hwx⟩ : ∃ z, w.alloc (.cells #[.int .i64 t.st, .int .i64 t.tx, .int .i64 t.try_, .int .i64 t.pc, .int .i64 t.rv, .int .i64 t.wv, .int .i64 t.sum, .slice t.rA t.R.length t.rc, .slice t.wA t.W.length t.wc, .int .i64 t.i, .int .i64 t.fr] 46) = z := ⟨_, rfl⟩
  rw [hwx] at kX hbX
  have HX := Lib.hid (h.keep hbX)
  have HWX := Lib.hid hwx
  have HBX := Lib.hid hbX
  obtain ⟨gx, hgx⟩ : ∃ z, w.heap.size = z := ⟨_, rfl⟩
  rw [hgx] at kX
  have HGX := Lib.hid hgx
  have HKX := Lib.hid kX
  clear kX hbX hwx hgx hap h hk hn hkl
  go_enter Try.func54, Try.ntmps54
  go_upto_region 1 with fail
  rw [HWX.out, HGX.out]
  clear r4 t0_ t1_ t2_ t3_ t4_ t5_ t6_ t7_ t8_ t9_ t10_
  have HLT := Lib.hid (show a.gT < gx ∧ a.gW < gx from by have h1 := HAP.out.2.2.2.1; have h2 := HGX.out; have h3 := HAP.out.2.2.2.2.1; omega)
  have x8 : wx.cell? ⟨gx, 8, none⟩ = some (.slice (some ⟨bw, ow, none⟩) nw t.wc) := by rw [HKX.out.cell, ← HEW.out, HNW.out]; rfl
  have x9 : wx.cell? ⟨gx, 9, none⟩ = some (.int .i64 (q : Int)) := by rw [HKX.out.cell, ← HQ.out]; rfl
  obtain ⟨c0, c1⟩ := HCW.out _ HBX.out
  have kY := Blk.new_ wx 55 #[.int .i64 (b : Int), .int .i64 xv] _ rfl
  have hbY := Below.alloc (Below.refl wx.heap.size wx) (Nat.le_refl _) (.cells #[.int .i64 (b : Int), .int .i64 xv] 55)
  obtain ⟨wy, hwy⟩ : ∃ z, wx.alloc (.cells #[.int .i64 (b : Int), .int .i64 xv] 55) = z := ⟨_, rfl⟩
  rw [hwy] at kY hbY
  have HY := Lib.hid (HX.out.keep hbY)
  have HKXY := Lib.hid (HKX.out.keep hbY)
  have HWY := Lib.hid hwy
  have hxl := HKX.out.lt
  obtain ⟨gy, hgy⟩ : ∃ z, wx.heap.size = z := ⟨_, rfl⟩
  have HGT := Lib.hid (show gx < gy from by omega)
  rw [hgy] at kY
  have HGY := Lib.hid hgy
  have HKY := Lib.hid kY
  clear kY hbY hwy hgy hxl
  go_upto_region 2 with fail
  rw [HWY.out, HGY.out]
  clear x8 x9 c0 c1
  have r0 : wy.cell? ⟨r, 0, none⟩ = some (.slice (some ⟨a.gW, 0, none⟩) nW a.cW) := by rw [HNB.out]; exact HY.out.rcells 0
  have y0 : wy.cell? ⟨gy, 0, none⟩ = some (.int .i64 (b : Int)) := by rw [HKY.out.cell]; rfl
  have y1 : wy.cell? ⟨gy, 1, none⟩ = some (.int .i64 xv) := by rw [HKY.out.cell]; rfl
  have wc_ := HY.out.wcell HBV.out
  have wf := HY.out.wfree
  have wl := HY.out.apart.2.2.2.2.1
  have n1 : ¬ a.gW = r := HAP.out.2.1
  have n2 : ¬ a.gW = gy := by have h1 := HLT.out.2; have h2 := HGT.out; omega
  refine wp_region_held_drew (S := fun W => W.cell? ⟨r, 0, none⟩ = some (.slice (some ⟨a.gW, 0, none⟩) nW a.cW) ∧ W.cell? ⟨gy, 0, none⟩ = some (.int .i64 (b : Int)) ∧ W.cell? ⟨gy, 1, none⟩ = some (.int .i64 xv)) (by kernel_rfl) ?_ (fun hbr => ?_)
  · exact ⟨r0, y0, y1⟩
  refine tkA 0 ?_
  refine tkA 1 ?_
  refine tkA 2 ?_
  refine tkA 3 ?_
  refine tkA 4 ?_
  refine tkA 5 ?_
  refine tkA 6 ?_
  refine tkA 7 ?_
  refine tkA 8 ?_
  refine stA 9 (fun K hK => ?_)
  go_simp
  refine hK.out _ _ ?_ (fun hbr9 => ?_)
  · exact ⟨by go_simp, by go_simp, by go_simp⟩
  clear hK K hbr
  try simp only [Act.put, List.setIfInBounds_toArray, List.set_cons_zero, List.set_cons_succ]
  refine wpAnyH_done (by kernel_rfl) ?_ _
  have HR2 := Lib.hid ((HY.out.setW b xv HBW.out).keep (Below.refl _ _).drew)
  have HKX2 := Lib.hid ((HKXY.out.far (p := ⟨a.gW, b, none⟩) (by have := HLT.out.2; show gx ≠ a.gW; omega) (.int .i64 xv)).drew)
  have HKY2 := Lib.hid ((HKY.out.far (p := ⟨a.gW, b, none⟩) (fun e => n2 e.symm) (.int .i64 xv)).drew)
  go_upto_region 3 with fail
  obtain ⟨wv, hwv⟩ : ∃ z, (wy.setCell ⟨a.gW, b, none⟩ (.int .i64 xv)).drew = z := ⟨_, rfl⟩
  rw [hwv] at HR2 HKX2 HKY2 ⊢
  clear hwv r0 y0 y1 wc_ wf wl n1 n2
  have HC := Lib.hid (fun W (hb : Below wv.heap.size wv W) => (show W.cell? ⟨r, 1, none⟩ = some (.int .i64 m.now) ∧ W.cell? ⟨r, 2, none⟩ = some (.int .i64 m.mx) ∧ W.cell? ⟨r, 3, none⟩ = some (.slice a.lA m.L.length a.lc) ∧ W.cell? ⟨gy, 0, none⟩ = some (.int .i64 (b : Int)) ∧ W.cell? ⟨gx, 5, none⟩ = some (.int .i64 t.wv) from ⟨(HR2.out.keep hb).rcells 1, (HR2.out.keep hb).rcells 2, (HR2.out.keep hb).rcells 3, by rw [(HKY2.out.keep hb).cell]; rfl, by rw [(HKX2.out.keep hb).cell]; rfl⟩))
  have HGV := Lib.hid (fun W (hb : Below wv.heap.size wv W) => RGive_any (.agg #[.int .i64 m.now, .int .i64 m.mx, .slice a.lA m.L.length a.lc]) m.now m.mx (b : Int) (k : Int) t.wv m.L W ((HR2.out.keep hb).lk.to) HLL.out)
  obtain ⟨tr, htr⟩ : ∃ z, z = giveL m.now m.mx m.L (b : Int) (k : Int) t.wv := ⟨_, rfl⟩
  rw [← htr] at HGV HSP
  obtain ⟨te, tl⟩ := tr
  dsimp only at HSP
  clear htr
  go_cut [6, 7] (fun s6 s7 wq => ∃ g A3 c3, s6 = .pointer (some ⟨g, 0, none⟩) ∧ s7 = .int .i64 te ∧ Hid (wv.heap.size ≤ g ∧ Below wv.heap.size wv wq ∧ Blk wq g 30 #[.int .i64 m.now, .int .i64 m.mx, .slice A3 tl.length c3] ∧ RowL wq w0.heap.size (.slice A3 tl.length c3) tl))
  case first =>
    obtain ⟨wz, hwz⟩ : ∃ z, wv.drew = z := ⟨_, rfl⟩
    have hBB : Below wv.heap.size wv wz := hwz ▸ (Below.refl _ _).drew
    have HWZ := Lib.hid hwz
    clear hwz
    refine wp_region_held_drew (S := fun W => W.cell? ⟨r, 1, none⟩ = some (.int .i64 m.now) ∧ W.cell? ⟨r, 2, none⟩ = some (.int .i64 m.mx) ∧ W.cell? ⟨r, 3, none⟩ = some (.slice a.lA m.L.length a.lc) ∧ W.cell? ⟨gy, 0, none⟩ = some (.int .i64 (b : Int)) ∧ W.cell? ⟨gx, 5, none⟩ = some (.int .i64 t.wv)) (by kernel_rfl) ?_ (fun hcr => ?_)
    · exact HC.out _ (Below.refl _ _).drew
    refine tkA 0 ?_
    refine tkA 1 ?_
    refine tkA 2 ?_
    refine tkA 3 ?_
    refine tkA 4 ?_
    refine tkA 5 ?_
    refine tkA 6 ?_
    refine tkA 7 ?_
    refine tkA 8 ?_
    refine wpAnyH_ready (rs := [9, 13]) (by kernel_rfl) (by simp) ?_
    refine conA (fun K hK => ?_) ?_
    · (try rw [HWZ.out])
      go_simp
      refine (HGV.out _ hBB).mono ?_
      rintro e wz ⟨v3, rfl, hlv3, hown3, hb3⟩
      have hO3 := hown3 w0.heap.size (HR2.out.keep hBB).base.size (HR2.out.keep hBB).lk
      obtain ⟨sv3, rfl, hs3⟩ := hO3
      obtain ⟨A3, c3, rfl, _, _⟩ := (Sl.of_own hs3).form
      (try replace kG := kG.keep hb3)
      replace hBB := hBB.trans (hb3.mono hBB.size)
      clear hlv3 hown3 hb3
      refine hK.out _ _ ?_ (fun hcr9b10 => ?_)
      · exact HC.out _ hBB
      clear hK K hcr
      try simp only [Act.put, List.setIfInBounds_toArray, List.set_cons_zero, List.set_cons_succ]
      refine tkA 10 ?_
      refine tkA 11 ?_
      refine tkA 12 ?_
      refine stA 13 (fun K hK => ?_)
      (try rw [HWZ.out])
      go_simp
      have hb := Below.alloc (Below.refl wz.heap.size wz) (Nat.le_refl _) (.cells #[.int .i64 0, .int .i64 0, .slice none 0 0] 30)
      have kG := Blk.new wz 30 #[.int .i64 0, .int .i64 0, .slice none 0 0]
      have hgl := hBB.size
      obtain ⟨g, hgg⟩ : ∃ g, wz.heap.size = g := ⟨_, rfl⟩
      obtain ⟨wz, hwy⟩ : ∃ z, wz.alloc (.cells #[.int .i64 0, .int .i64 0, .slice none 0 0] 30) = z := ⟨_, rfl⟩
      rw [hwy] at hb kG ⊢
      rw [hgg] at kG hgl ⊢
      (try replace hs3 := own_below hs3 hb)
      replace hBB := hBB.trans (hb.mono hBB.size)
      clear hb hgg hwy
      refine hK.out _ _ ?_ (fun hcr13b14 => ?_)
      · exact HC.out _ hBB
      clear hK K hcr9b10
      try simp only [Act.put, List.setIfInBounds_toArray, List.set_cons_zero, List.set_cons_succ]
      refine stA 14 (fun K hK => ?_)
      refine step_store_box g 30 _ kG [.int .i64 m.now, .int .i64 m.mx, .slice A3 tl.length c3] rfl locks_size (by simp [Value.oneCell']) (.tmp 6) (.tmp 41) (by rfl) rfl rfl rfl ?_
      rintro wz kG2 hgz
      replace hs3 := own_ty hs3 hgz kG (by decide)
      replace hBB := hBB.grown hgz hBB.size (fun k hk => by injection hk with hk; omega)
      clear hgz kG
      refine hK.out _ _ ?_ (fun hcr14b15 => ?_)
      · exact HC.out _ hBB
      clear hK K hcr13b14
      try simp only [Act.put, List.setIfInBounds_toArray, List.set_cons_zero, List.set_cons_succ]
      refine stA 15 (fun K hK => ?_)
      go_simp
      refine hK.out _ _ ?_ (fun hcr15b16 => ?_)
      · exact HC.out _ hBB
      clear hK K hcr14b15
      try simp only [Act.put, List.setIfInBounds_toArray, List.set_cons_zero, List.set_cons_succ]
      refine wpAnyH_done (by kernel_rfl) ?_ _
      go_wp2_with fail
      go_meet
      exact ⟨g, A3, c3, rfl, rfl, (show Hid _ from ⟨hgl, hBB, kG2, hs3⟩)⟩
    refine conA (fun K hK => ?_) ?_
    · (try rw [HWZ.out])
      go_simp
      have hb := Below.alloc (Below.refl wz.heap.size wz) (Nat.le_refl _) (.cells #[.int .i64 0, .int .i64 0, .slice none 0 0] 30)
      have kG := Blk.new wz 30 #[.int .i64 0, .int .i64 0, .slice none 0 0]
      have hgl := hBB.size
      obtain ⟨g, hgg⟩ : ∃ g, wz.heap.size = g := ⟨_, rfl⟩
      obtain ⟨wz, hwy⟩ : ∃ z, wz.alloc (.cells #[.int .i64 0, .int .i64 0, .slice none 0 0] 30) = z := ⟨_, rfl⟩
      rw [hwy] at hb kG ⊢
      rw [hgg] at kG hgl ⊢
      (try replace hs3 := own_below hs3 hb)
      replace hBB := hBB.trans (hb.mono hBB.size)
      clear hb hgg hwy
      refine hK.out _ _ ?_ (fun hcr13b17 => ?_)
      · exact HC.out _ hBB
      clear hK K hcr
      try simp only [Act.put, List.setIfInBounds_toArray, List.set_cons_zero, List.set_cons_succ]
      refine stA 9 (fun K hK => ?_)
      (try rw [HWZ.out])
      go_simp
      refine (HGV.out _ hBB).mono ?_
      rintro e wz ⟨v3, rfl, hlv3, hown3, hb3⟩
      have hO3 := hown3 w0.heap.size (HR2.out.keep hBB).base.size (HR2.out.keep hBB).lk
      obtain ⟨sv3, rfl, hs3⟩ := hO3
      obtain ⟨A3, c3, rfl, _, _⟩ := (Sl.of_own hs3).form
      (try replace kG := kG.keep hb3)
      replace hBB := hBB.trans (hb3.mono hBB.size)
      clear hlv3 hown3 hb3
      refine hK.out _ _ ?_ (fun hcr9b18 => ?_)
      · exact HC.out _ hBB
      clear hK K hcr13b17
      try simp only [Act.put, List.setIfInBounds_toArray, List.set_cons_zero, List.set_cons_succ]
      refine tkA 10 ?_
      refine tkA 11 ?_
      refine tkA 12 ?_
      refine stA 14 (fun K hK => ?_)
      refine step_store_box g 30 _ kG [.int .i64 m.now, .int .i64 m.mx, .slice A3 tl.length c3] rfl locks_size (by simp [Value.oneCell']) (.tmp 6) (.tmp 41) (by rfl) rfl rfl rfl ?_
      rintro wz kG2 hgz
      replace hs3 := own_ty hs3 hgz kG (by decide)
      replace hBB := hBB.grown hgz hBB.size (fun k hk => by injection hk with hk; omega)
      clear hgz kG
      refine hK.out _ _ ?_ (fun hcr14b22 => ?_)
      · exact HC.out _ hBB
      clear hK K hcr9b18
      try simp only [Act.put, List.setIfInBounds_toArray, List.set_cons_zero, List.set_cons_succ]
      refine stA 15 (fun K hK => ?_)
      go_simp
      refine hK.out _ _ ?_ (fun hcr15b23 => ?_)
      · exact HC.out _ hBB
      clear hK K hcr14b22
      try simp only [Act.put, List.setIfInBounds_toArray, List.set_cons_zero, List.set_cons_succ]
      refine wpAnyH_done (by kernel_rfl) ?_ _
      go_wp2_with fail
      go_meet
      exact ⟨g, A3, c3, rfl, rfl, (show Hid _ from ⟨hgl, hBB, kG2, hs3⟩)⟩
    exact AllReadyH.nil
  case rest =>
    obtain ⟨g, A3, c3, rfl, rfl, HCUT⟩ := hcut
    obtain ⟨hgl, hBC, hKG, hRL⟩ := HCUT.out
    have HH2 := Lib.hid (HR2.out.keep hBC)
    have HKX3 := Lib.hid (HKX2.out.keep hBC)
    have HKG := Lib.hid hKG
    have HRL := Lib.hid hRL
    clear HCUT hgl hBC hKG hRL
    obtain ⟨nl, hnl⟩ : ∃ z, z = tl.length := ⟨_, rfl⟩
    have HNL := Lib.hid hnl
    rw [← hnl] at HKG HRL
    have HR3 := Lib.hid (HH2.out.setC (now := m.now) (mx := m.mx) (L := tl) (A := A3) (c := c3) (by rw [← HNL.out]; exact HRL.out))
    have HKX4 := Lib.hid (((HKX3.out.rfar HH2.out.run (by decide) 1 (.int .i64 m.now)).rfar (HH2.out.run.set_ 1 _) (by decide) 2 (.int .i64 m.mx)).rfar ((HH2.out.run.set_ 1 _).set_ 2 _) (by decide) 3 (.slice A3 nl c3))
    rw [← HNL.out] at HR3
    have k0 : wc.cell? ⟨g, 0, none⟩ = some (.int .i64 m.now) := by rw [HKG.out.cell]; rfl
    have k1 : wc.cell? ⟨g, 1, none⟩ = some (.int .i64 m.mx) := by rw [HKG.out.cell]; rfl
    have k2 : wc.cell? ⟨g, 2, none⟩ = some (.slice A3 nl c3) := by rw [HKG.out.cell]; rfl
    have u1 : wc.cell? ⟨r, 1, none⟩ = some (.int .i64 m.now) := HH2.out.rcells 1
    have u2 : wc.cell? ⟨r, 2, none⟩ = some (.int .i64 m.mx) := HH2.out.rcells 2
    have u3 : wc.cell? ⟨r, 3, none⟩ = some (.slice a.lA m.L.length a.lc) := HH2.out.rcells 3
    have uf := HH2.out.run.free
    have hrl := HH2.out.run.lt
    clear hnl
    go_upto_region 5 with fail
    obtain ⟨w5, hw5⟩ : ∃ z, ((wc.setCell ⟨r, 1, none⟩ (.int .i64 m.now)).setCell ⟨r, 2, none⟩ (.int .i64 m.mx)).setCell ⟨r, 3, none⟩ (.slice A3 nl c3) = z := ⟨_, rfl⟩
    rw [hw5] at HR3 HKX4 ⊢
    clear hw5 k0 k1 k2 u1 u2 u3 uf hrl
    have hwr : IntKind.i64.wrap ((q : Int) + 1) = (q : Int) + 1 := by rw [IntKind.wrap_i64]; omega
    have r4 : w5.cell? ⟨r, 4, none⟩ = some (.slice (some ⟨a.gT, 0, none⟩) n a.cT) := by rw [HN.out]; exact HR3.out.rcells 4
    have x9 : w5.cell? ⟨gx, 9, none⟩ = some (.int .i64 (q : Int)) := by rw [HKX4.out.cell, ← HQ.out]; rfl
    have tc := HR3.out.tcells (k := k) (j := 9) HK.out rfl
    have tf := HR3.out.tfree
    have tll := HR3.out.apart.2.2.2.1
    have tne : ¬ a.gT = gx := by have := HLT.out.1; omega
    have tnr : ¬ a.gT = r := HAP.out.1
    have HR4 := Lib.hid ((HR3.out.tcell (k := k) HK.out { t with i := t.i + 1 } (j := 9) (u := .int .i64 (t.i + 1)) (by omega) rfl ⟨rfl, rfl, rfl, rfl, rfl, rfl⟩).keep (Below.refl _ _).drew)
    have HKX5 := Lib.hid ((HKX4.out.far (p := ⟨a.gT, k * 11 + 9, none⟩) (fun e => tne e.symm) (.int .i64 (t.i + 1))).drew)
    rw [HQ.out] at HR4 HKX5
    refine wp_region_held_drew (S := fun W => W.cell? ⟨r, 4, none⟩ = some (.slice (some ⟨a.gT, 0, none⟩) n a.cT) ∧ W.cell? ⟨gx, 9, none⟩ = some (.int .i64 (q : Int))) (by kernel_rfl) ?_ (fun hdr => ?_)
    · exact ⟨r4, x9⟩
    refine tkA 0 ?_
    refine tkA 1 ?_
    refine tkA 2 ?_
    refine tkA 3 ?_
    refine tkA 4 ?_
    refine tkA 5 ?_
    refine tkA 6 ?_
    refine tkA 7 ?_
    refine tkA 8 ?_
    refine tkA 9 ?_
    refine stA 10 (fun K hK => ?_)
    go_simp
    refine hK.out _ _ ?_ (fun hdr10 => ?_)
    · exact ⟨by go_simp, by go_simp⟩
    clear hK K hdr
    try simp only [Act.put, List.setIfInBounds_toArray, List.set_cons_zero, List.set_cons_succ]
    refine wpAnyH_done (by kernel_rfl) ?_ _
    go_upto_region 6 with fail
    obtain ⟨w6, hw6⟩ : ∃ z, (w5.setCell ⟨a.gT, k * 11 + 9, none⟩ (.int .i64 ((q : Int) + 1))).drew = z := ⟨_, rfl⟩
    rw [hw6] at HR4 HKX5 ⊢
    clear hw6 r4 x9 tc tf tll tne tnr
    have x8 : w6.cell? ⟨gx, 8, none⟩ = some (.slice t.wA nw t.wc) := by rw [HKX5.out.cell, HNW.out]; rfl
    have x9 : w6.cell? ⟨gx, 9, none⟩ = some (.int .i64 (q : Int)) := by rw [HKX5.out.cell, ← HQ.out]; rfl
    by_cases hl : (q : Int) + 1 = (nw : Int)
    · have hlb : ((q : Int) + 1 == (nw : Int)) = true := by simpa using hl
      have HL := Lib.hid hl
      have HOV := Lib.hid (rover_any HR4.out (k := k) (RefW.set_at HK.out _) 0 htx)
      clear hl
      go_wp2_with fail
      refine HOV.out.mono ?_
      rintro e w7 ⟨rfl, h7⟩
      have H7 := Lib.hid h7
      clear h7
      go_wp2
      first | go_end0 | refine bodyPost_ret (results_none rfl _ _ _) rfl ?_
      refine ⟨rfl, _, _, H7.out, ?_⟩
      rw [HSP.out, if_pos (by rw [HQ.out, ← HNW.out]; exact HL.out), Int.toNat_natCast, ← HXV.out]
      unfold overM
      simp only [List.set_set]
      rfl
    · have hlb : ((q : Int) + 1 == (nw : Int)) = false := by simpa using hl
      have HL := Lib.hid hl
      clear hl
      go_wp2
      first | go_end0 | refine bodyPost_ret (results_none rfl _ _ _) rfl ?_
      refine ⟨rfl, _, _, HR4.out, ?_⟩
      rw [HSP.out, if_neg (by rw [HQ.out, ← HNW.out]; exact HL.out), Int.toNat_natCast, ← HXV.out, HQ.out]
end
end Go.Proofs.Ytngimbfojccikaa
