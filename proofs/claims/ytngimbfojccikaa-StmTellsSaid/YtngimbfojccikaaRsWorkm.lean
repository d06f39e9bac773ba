/- foliateref19: work: printed by rs_work.py. -/
import Derived.Test.YtngimbfojccikaaRsCheckm
import Derived.Test.YtngimbfojccikaaRsWritem
import Derived.Test.YtngimbfojccikaaStAppSlm
namespace Go.Proofs.Ytngimbfojccikaa
set_option linter.unusedSimpArgs false
open Go Go.RowKit
set_option linter.unusedVariables false
set_option maxRecDepth 100000

section
variable {w0 w w' : World} {r : Nat} {a : Ad} {m : Mm}

theorem rfind_none {l : List Pr} {a : Int} (h : ∀ p ∈ l, p.at_ ≠ a) : rfindL l a = -1 := by
  unfold rfindL
  rw [if_neg]
  intro hlt
  have := List.findIdx_getElem (p := fun p : Pr => p.at_ == a) (xs := l) (w := hlt)
  exact h _ (List.getElem_mem hlt) (by simpa using this)
theorem rfind_some {l : List Pr} {a : Int} {q : Nat} (h : l.findIdx (fun p => p.at_ == a) = q) (hq : q < l.length) : rfindL l a = (q : Int) := by
  unfold rfindL
  rw [h, if_pos hq]
theorem getP_miss {m : Mm} {k : Nat} {t : Tx} {a : Int} (h : ∀ p ∈ t.W, p.at_ ≠ a) : t.W[t.W.findIdx (fun p => p.at_ == a)]? = none := by
  cases hp : t.W[t.W.findIdx (fun p => p.at_ == a)]? with
  | none => rfl
  | some p => exact absurd (find_mem hp).2 (h p (find_mem hp).1)
theorem getP_none {m : Mm} {k : Nat} {t : Tx} {a : Int} (h : ∀ p ∈ t.W, p.at_ ≠ a) (hs : seesL m.now m.mx m.L a t.rv (k : Int) = false) : getP m k t a = none := by
  unfold getP
  rw [getP_miss (m := m) (k := k) h]
  simp only
  rw [if_neg (by rw [hs]; simp)]

set_option maxHeartbeats 16000000 in
theorem rwork_end {words : Nat} {txs : List (List Ac)} {pl : List (List (List Ac))} {k : Nat} {t : Tx} (h : RefW w0 w r a m) (hk : m.T[k]? = some t) (hg : Good words pl m) (gt : GoodT words txs t) (hH : m.H.length ≤ 1000) (htx : 0 ≤ t.tx ∧ t.tx ≤ 1000) (av : Value) (l : List Ac) (hl : AcV w av l) (hll : l.length ≤ 1000) (hpc : (l.length : Int) ≤ t.pc) :
    Calls Try.prog 50 #[.pointer (some ⟨r, 0, none⟩), .int .i64 (k : Int), av] w (RefP w0 r (workM l m k t)) := by
  obtain ⟨Al, cl, rfl, _, _⟩ := Sl.form hl
  have HKL := Lib.hid (List.getElem?_eq_some_iff.1 hk).1
  have HSP := Lib.hid (show workM l m k t = if t.W.length = 0 then endM m k t 0 else { m with T := m.T.set k { t with st := 2, i := 0 } } from by unfold workM; rw [List.getElem?_eq_none (by have := gt.c0; omega)])
  obtain ⟨nl, hnl⟩ : ∃ z, z = l.length := ⟨_, rfl⟩
  rw [← hnl] at hpc ⊢
  obtain ⟨nw, hnw⟩ : ∃ z, z = t.W.length := ⟨_, rfl⟩
  have HNW := Lib.hid hnw
  obtain ⟨pc, hpcc⟩ : ∃ z, z = t.pc := ⟨_, rfl⟩
  have HPC := Lib.hid hpcc
  rw [← hpcc] at hpc
  clear hnl hnw hpcc hg gt hl
  have hkl := (List.getElem?_eq_some_iff.1 hk).1
  obtain ⟨n, hn⟩ : ∃ n, n = m.T.length := ⟨_, rfl⟩
  have hk0 : (0 : Int) ≤ (k : Int) := by omega
  have hk1 : (k : Int) < (n : Int) := by omega
  have r4 : w.cell? ⟨r, 4, none⟩ = some (.slice (some ⟨a.gT, 0, none⟩) n a.cT) := by rw [hn]; exact h.rcells 4
  have t0_ := h.tcells hk (j := 0) rfl
  have t1_ := h.tcells hk (j := 1) rfl
  have t2_ := h.tcells hk (j := 2) rfl
  have t3_ := h.tcells hk (j := 3) rfl
  have t4_ := h.tcells hk (j := 4) rfl
  have t5_ := h.tcells hk (j := 5) rfl
  have t6_ := h.tcells hk (j := 6) rfl
  have t7_ := h.tcells hk (j := 7) rfl
  have t8_ := h.tcells hk (j := 8) rfl
  have t9_ := h.tcells hk (j := 9) rfl
  have t10_ := h.tcells hk (j := 10) rfl
  simp only [Nat.add_zero] at t0_
  have hap := h.apart
  have HAP := Lib.hid hap
  have HH := Lib.hid h
  have HK := Lib.hid hk
  have HN := Lib.hid hn
  have kX := Blk.new_ w 46 #[.int .i64 t.st, .int .i64 t.tx, .int .i64 t.try_, .int .i64 t.pc, .int .i64 t.rv, .int .i64 t.wv, .int .i64 t.sum, .slice t.rA t.R.length t.rc, .slice t.wA t.W.length t.wc, .int .i64 t.i, .int .i64 t.fr] _ rfl
  have hbX := Below.alloc (Below.refl w.heap.size w) (Nat.le_refl _) (.cells #[.int .i64 t.st, .int .i64 t.tx, .int .i64 t.try_, .int .i64 t.pc, .int .i64 t.rv, .int .i64 t.wv, .int .i64 t.sum, .slice t.rA t.R.length t.rc, .slice t.wA t.W.length t.wc, .int .i64 t.i, .int .i64 t.fr] 46)
  obtain ⟨wx, hwx⟩ : ∃ z, w.alloc (.cells #[.int .i64 t.st, .int .i64 t.tx, .int .i64 t.try_, .int .i64 t.pc, .int .i64 t.rv, .int .i64 t.wv, .int .i64 t.sum, .slice t.rA t.R.length t.rc, .slice t.wA t.W.length t.wc, .int .i64 t.i, .int .i64 t.fr] 46) = z := ⟨_, rfl⟩
  rw [hwx] at kX hbX
  have HX := Lib.hid (h.keep hbX)
  have HWX := Lib.hid hwx
  have HBX := Lib.hid hbX
  obtain ⟨gx, hgx⟩ : ∃ z, w.heap.size = z := ⟨_, rfl⟩
  rw [hgx] at kX
  have HGX := Lib.hid hgx
  have HKX := Lib.hid kX
  clear kX hbX hwx hgx hap h hk hn hkl
  go_enter Try.func50, Try.ntmps50
  go_upto_region 1 with fail
  rw [HWX.out, HGX.out]
  clear r4 t0_ t1_ t2_ t3_ t4_ t5_ t6_ t7_ t8_ t9_ t10_
  have x3 : wx.cell? ⟨gx, 3, none⟩ = some (.int .i64 pc) := by rw [HKX.out.cell, HPC.out]; rfl
  have x8 : wx.cell? ⟨gx, 8, none⟩ = some (.slice t.wA nw t.wc) := by rw [HKX.out.cell, HNW.out]; rfl
  by_cases h0 : nw = 0
  · have HE0 := Lib.hid h0
    subst h0
    have HQT := Lib.hid (rend_any HX.out HK.out 0 hH htx)
    clear hH htx
    go_wp2_with fail
    refine HQT.out.mono ?_
    rintro e w5 ⟨rfl, hp⟩
    have HP := Lib.hid hp
    clear hp
    go_wp2
    first | go_end0 | refine bodyPost_ret (results_none rfl _ _ _) rfl ?_
    rw [HSP.out, if_pos HNW.out.symm]
    exact ⟨rfl, HP.out⟩
  · have h0b : ((nw : Int) == 0) = false := by simp; omega
    have HNE := Lib.hid (show ¬ t.W.length = 0 from by rw [← HNW.out]; exact h0)
    clear hH htx h0
    go_upto_region 4 with fail
    clear x3 x8
    have r4 : wx.cell? ⟨r, 4, none⟩ = some (.slice (some ⟨a.gT, 0, none⟩) n a.cT) := by rw [HN.out]; have := HX.out.rcells 4; simpa [memCells] using this
    have tc := HX.out.tcells (k := k) (j := 0) HK.out rfl
    simp only [Nat.add_zero] at tc
    have tf := HX.out.tfree
    have tl := HX.out.apart.2.2.2.1
    have H2 := Lib.hid (HX.out.tcell (k := k) HK.out { t with st := 2 } (j := 0) (u := .int .i64 2) (by omega) rfl ⟨rfl, rfl, rfl, rfl, rfl, rfl⟩)
    simp only [Nat.add_zero] at H2
    go_upto_region 5 with fail
    obtain ⟨w2, hwb⟩ : ∃ z, wx.setCell ⟨a.gT, k * 11, none⟩ (.int .i64 2) = z := ⟨_, rfl⟩
    rw [hwb] at H2 ⊢
    clear hwb r4 tc tf tl
    have r4 : w2.cell? ⟨r, 4, none⟩ = some (.slice (some ⟨a.gT, 0, none⟩) n a.cT) := by rw [HN.out]; have := H2.out.rcells 4; simpa [memCells] using this
    have tc := H2.out.tcells (k := k) (j := 9) (List.getElem?_set_self HKL.out) rfl

    have tf := H2.out.tfree
    have tl := H2.out.apart.2.2.2.1
    have H3 := Lib.hid (H2.out.setT (k := k) (t := { t with st := 2 }) (List.getElem?_set_self HKL.out) { t with st := 2 } { t with st := 2, i := 0 } (j := 9) (u := .int .i64 0) (by omega) rfl ⟨rfl, rfl, rfl, rfl, rfl, rfl⟩ (m' := m) rfl HKL.out)
    go_wp2
    first | go_end0 | refine bodyPost_ret (results_none rfl _ _ _) rfl ?_
    rw [HSP.out, if_neg HNE.out]
    exact ⟨rfl, _, _, H3.out, rfl⟩

set_option maxHeartbeats 16000000 in
theorem rwork_put {words : Nat} {txs : List (List Ac)} {pl : List (List (List Ac))} {k : Nat} {t : Tx} (h : RefW w0 w r a m) (hk : m.T[k]? = some t) (hg : Good words pl m) (gt : GoodT words txs t) (hH : m.H.length ≤ 1000) (htx : 0 ≤ t.tx ∧ t.tx ≤ 1000) (av : Value) (l : List Ac) (hl : AcV w av l) (hll : l.length ≤ 1000) (x : Ac) (hx : l[t.pc.toNat]? = some x) (hd : x.d = 1) :
    Calls Try.prog 50 #[.pointer (some ⟨r, 0, none⟩), .int .i64 (k : Int), av] w (RefP w0 r (workM l m k t)) := by
  have HSP := Lib.hid (show workM l m k t = { m with T := m.T.set k { t with W := writeP t.W x.at_ (x.v), pc := t.pc + 1 } } from by unfold workM; rw [hx]; simp only; unfold actM; rw [if_pos hd])
  have hpl := (List.getElem?_eq_some_iff.1 hx).1
  obtain ⟨pc, hpc⟩ : ∃ z : Nat, t.pc = (z : Int) := ⟨t.pc.toNat, by have := gt.c0; omega⟩
  rw [hpc, Int.toNat_natCast] at hx hpl
  have HPC := Lib.hid hpc
  obtain ⟨nl, hnl⟩ : ∃ z, z = l.length := ⟨_, rfl⟩
  obtain ⟨Al, cl, rfl, _, hcm⟩ := Sl.form hl
  obtain ⟨bl, ol, rfl, hbl, hcl⟩ := Sl.pos encAc encAc_len hl (by omega)
  have hxw := (List.getElem?_eq_some_iff.1 hx).2
  have hnl9 : nl ≤ 9223372036854775807 := by obtain ⟨_, _, _, h6, h7⟩ := Sl.form hl; unfold maxLen at h7; omega
  obtain ⟨xd, hxd⟩ : ∃ z, z = x.d := ⟨_, rfl⟩
  obtain ⟨xa, hxa⟩ : ∃ z, z = x.at_ := ⟨_, rfl⟩
  obtain ⟨xv, hxv⟩ : ∃ z, z = x.v := ⟨_, rfl⟩
  have HXD := Lib.hid hxd
  have HXA := Lib.hid hxa
  have HXV := Lib.hid hxv
  have HCL := Lib.hid (fun W (hb : Below w.heap.size w W) => (show W.cell? ⟨bl, ol + pc * 3, none⟩ = some (.int .i64 xd) ∧ W.cell? ⟨bl, ol + pc * 3 + 1, none⟩ = some (.int .i64 xa) ∧ W.cell? ⟨bl, ol + pc * 3 + 2, none⟩ = some (.int .i64 xv) from
    ⟨by have := hcl W hb pc hpl 0 _ rfl; rw [hxw, ← hxd] at this; simpa using this, by have := hcl W hb pc hpl 1 _ rfl; rw [hxw, ← hxa] at this; exact this, by have := hcl W hb pc hpl 2 _ rfl; rw [hxw, ← hxv] at this; exact this⟩))
  have hp0 : (0 : Int) ≤ (pc : Int) := by omega
  have hp1 : (pc : Int) < (nl : Int) := by omega
  have hp2 : ¬ (nl : Int) ≤ (pc : Int) := by omega
  rw [← hnl]
  have hd' : xd = 1 := by rw [hxd]; exact hd
  obtain ⟨sm, hsm⟩ : ∃ z, z = t.sum := ⟨_, rfl⟩
  have HSM := Lib.hid hsm
  obtain ⟨nv, hnv⟩ : ∃ z, xv = z := ⟨_, rfl⟩
  have HNV := Lib.hid hnv
  subst hnv
  have HWV := Lib.hid (fun W (hb : Below w.heap.size w W) => rwrite_any (.slice t.wA t.W.length t.wc) t.W xa xv W (Sl.of_own ((h.keep hb).ts hk).2) gt.ws (by have h1 := gt.wl; have h2 := gt.c1; omega))
  have b1 : (xd == 1) = true := by rw [hd']; rfl
  have b2 : (xd == 2) = false := by rw [hd']; rfl
  have b0 : (xd == 0) = false := by rw [hd']; rfl
  clear hd hd' hx hxw hcl hbl hg gt hl hpl hpc hnl hxd hxa hxv hcm hH htx hsm

  have hkl := (List.getElem?_eq_some_iff.1 hk).1
  obtain ⟨n, hn⟩ : ∃ n, n = m.T.length := ⟨_, rfl⟩
  have hk0 : (0 : Int) ≤ (k : Int) := by omega
  have hk1 : (k : Int) < (n : Int) := by omega
  have r4 : w.cell? ⟨r, 4, none⟩ = some (.slice (some ⟨a.gT, 0, none⟩) n a.cT) := by rw [hn]; exact h.rcells 4
  have t0_ := h.tcells hk (j := 0) rfl
  have t1_ := h.tcells hk (j := 1) rfl
  have t2_ := h.tcells hk (j := 2) rfl
  have t3_ := h.tcells hk (j := 3) rfl
  have t4_ := h.tcells hk (j := 4) rfl
  have t5_ := h.tcells hk (j := 5) rfl
  have t6_ := h.tcells hk (j := 6) rfl
  have t7_ := h.tcells hk (j := 7) rfl
  have t8_ := h.tcells hk (j := 8) rfl
  have t9_ := h.tcells hk (j := 9) rfl
  have t10_ := h.tcells hk (j := 10) rfl
  simp only [Nat.add_zero] at t0_
  have hap := h.apart
  have HAP := Lib.hid hap
  have HH := Lib.hid h
  have HK := Lib.hid hk
  have HN := Lib.hid hn
  have kX := Blk.new_ w 46 #[.int .i64 t.st, .int .i64 t.tx, .int .i64 t.try_, .int .i64 t.pc, .int .i64 t.rv, .int .i64 t.wv, .int .i64 t.sum, .slice t.rA t.R.length t.rc, .slice t.wA t.W.length t.wc, .int .i64 t.i, .int .i64 t.fr] _ rfl
  have hbX := Below.alloc (Below.refl w.heap.size w) (Nat.le_refl _) (.cells #[.int .i64 t.st, .int .i64 t.tx, .int .i64 t.try_, .int .i64 t.pc, .int .i64 t.rv, .int .i64 t.wv, .int .i64 t.sum, .slice t.rA t.R.length t.rc, .slice t.wA t.W.length t.wc, .int .i64 t.i, .int .i64 t.fr] 46)
  obtain ⟨wx, hwx⟩ : ∃ z, w.alloc (.cells #[.int .i64 t.st, .int .i64 t.tx, .int .i64 t.try_, .int .i64 t.pc, .int .i64 t.rv, .int .i64 t.wv, .int .i64 t.sum, .slice t.rA t.R.length t.rc, .slice t.wA t.W.length t.wc, .int .i64 t.i, .int .i64 t.fr] 46) = z := ⟨_, rfl⟩
  rw [hwx] at kX hbX
  have HX := Lib.hid (h.keep hbX)
  have HWX := Lib.hid hwx
  have HBX := Lib.hid hbX
  obtain ⟨gx, hgx⟩ : ∃ z, w.heap.size = z := ⟨_, rfl⟩
  rw [hgx] at kX
  have HGX := Lib.hid hgx
  have HKX := Lib.hid kX
  clear kX hbX hwx hgx hap h hk hn hkl
  go_enter Try.func50, Try.ntmps50
  go_upto_region 1 with fail
  rw [HWX.out, HGX.out]
  clear r4 t0_ t1_ t2_ t3_ t4_ t5_ t6_ t7_ t8_ t9_ t10_
  have HLT := Lib.hid (show a.gT < gx from by have h1 := HAP.out.2.2.2.1; have h2 := HGX.out; omega)
  have HGE := Lib.hid (show w0.heap.size ≤ gx from by have h1 := HH.out.base.size; have h2 := HGX.out; omega)
  have x3 : wx.cell? ⟨gx, 3, none⟩ = some (.int .i64 (pc : Int)) := by rw [HKX.out.cell, ← HPC.out]; rfl
  obtain ⟨c0, c1, c2⟩ := HCL.out _ HBX.out
  have kY := Blk.new_ wx 53 #[.int .i64 xd, .int .i64 xa, .int .i64 xv] _ rfl
  have hbY := Below.alloc (Below.refl wx.heap.size wx) (Nat.le_refl _) (.cells #[.int .i64 xd, .int .i64 xa, .int .i64 xv] 53)
  obtain ⟨wy, hwy⟩ : ∃ z, wx.alloc (.cells #[.int .i64 xd, .int .i64 xa, .int .i64 xv] 53) = z := ⟨_, rfl⟩
  rw [hwy] at kY hbY
  have HY := Lib.hid (HX.out.keep hbY)
  have HKXY := Lib.hid (HKX.out.keep hbY)
  have HWY := Lib.hid hwy
  have HBY := Lib.hid hbY
  have hxl := HKX.out.lt
  obtain ⟨ga, hga⟩ : ∃ z, wx.heap.size = z := ⟨_, rfl⟩
  have HGT := Lib.hid (show gx < ga from by omega)
  rw [hga] at kY
  have HGA := Lib.hid hga
  have HKY := Lib.hid kY
  clear kY hbY hwy hga hxl
  go_upto_region 7 with fail
  rw [HWY.out, HGA.out]
  clear x3 c0 c1 c2
  have y0 : wy.cell? ⟨ga, 0, none⟩ = some (.int .i64 xd) := by rw [HKY.out.cell]; rfl
  have y1 : wy.cell? ⟨ga, 1, none⟩ = some (.int .i64 xa) := by rw [HKY.out.cell]; rfl
  have y2 : wy.cell? ⟨ga, 2, none⟩ = some (.int .i64 xv) := by rw [HKY.out.cell]; rfl
  have x8 : wy.cell? ⟨gx, 8, none⟩ = some (.slice t.wA t.W.length t.wc) := by rw [HKXY.out.cell]; rfl
  have x6 : wy.cell? ⟨gx, 6, none⟩ = some (.int .i64 sm) := by rw [HKXY.out.cell, HSM.out]; rfl
  have HBY2 := Lib.hid (HBX.out.trans (HBY.out.mono HBX.out.size))
  go_wp2_with fail
  
  refine (HWV.out _ HBY2.out).mono ?_
  rintro e w1 ⟨A1, c1, rfl, hp1, hb1⟩
  have H1 := Lib.hid (HY.out.keep hb1)
  have K1 := Lib.hid (HKXY.out.keep hb1)
  have KA1 := Lib.hid (HKY.out.keep hb1)
  have R1 := Lib.hid (PRow.mono hp1 (show w0.heap.size ≤ wy.heap.size from HY.out.base.size))
  obtain ⟨nw, hnw⟩ : ∃ z, z = (writeP t.W xa xv).length := ⟨_, rfl⟩
  rw [← hnw]
  have HNW := Lib.hid hnw
  clear x8 x6 y0 y1 y2 hp1 hb1 hnw
  have q8 : w1.cell? ⟨gx, 8, none⟩ = some (.slice t.wA t.W.length t.wc) := by rw [K1.out.cell]; rfl
  have qf := K1.out.free
  have ql := K1.out.lt
  have H2 := Lib.hid (H1.out.tbox K1.out (grown_setCell w1 ⟨gx, 8, none⟩ (.slice A1 nw c1)) (by have := HLT.out; show ¬ a.gT = gx; omega) HGE.out)
  have K2 := Lib.hid (K1.out.set_ 8 (.slice A1 nw c1))
  have KA2 := Lib.hid (KA1.out.far (p := ⟨gx, 8, none⟩) (by have := HGT.out; show ga ≠ gx; omega) (.slice A1 nw c1))
  have R2 := Lib.hid (own_ty R1.out (grown_setCell w1 ⟨gx, 8, none⟩ (.slice A1 nw c1)) K1.out (by decide))
  go_upto_region 9 with fail
  obtain ⟨w2, hw2⟩ : ∃ z, w1.setCell ⟨gx, 8, none⟩ (.slice A1 nw c1) = z := ⟨_, rfl⟩
  rw [hw2] at H2 K2 KA2 R2 ⊢
  clear hw2 q8 qf ql
  have y0 : w2.cell? ⟨ga, 0, none⟩ = some (.int .i64 xd) := by rw [KA2.out.cell]; rfl
  go_upto_region 20 with fail
  clear y0
  have RR := Lib.hid (show PRow w2 w0.heap.size t.rA t.rc t.R ∧ PRow w2 w0.heap.size A1 c1 (writeP t.W xa xv) from ⟨(H2.out.ts HK.out).1, R2.out⟩)
  have q3 : w2.cell? ⟨gx, 3, none⟩ = some (.int .i64 (pc : Int)) := by rw [K2.out.cell, ← HPC.out]; rfl
  have qf := K2.out.free
  have ql := K2.out.lt
  have hwr : IntKind.i64.wrap ((pc : Int) + 1) = (pc : Int) + 1 := by rw [IntKind.wrap_i64]; omega
  have H9 := Lib.hid (H2.out.tbox K2.out (grown_setCell w2 ⟨gx, 3, none⟩ (.int .i64 ((pc : Int) + 1))) (by have := HLT.out; show ¬ a.gT = gx; omega) HGE.out)
  have K9 := Lib.hid (K2.out.set_ 3 (.int .i64 ((pc : Int) + 1)))
  have R9 := Lib.hid (And.intro (own_ty RR.out.1 (grown_setCell w2 ⟨gx, 3, none⟩ (.int .i64 ((pc : Int) + 1))) K2.out (by decide)) (own_ty RR.out.2 (grown_setCell w2 ⟨gx, 3, none⟩ (.int .i64 ((pc : Int) + 1))) K2.out (by decide)))
  go_upto_region 21 with fail
  obtain ⟨w9, hw9⟩ : ∃ z, w2.setCell ⟨gx, 3, none⟩ (.int .i64 ((pc : Int) + 1)) = z := ⟨_, rfl⟩
  rw [hw9] at H9 K9 R9 ⊢
  clear hw9 q3 qf ql hwr
  have r4 : w9.cell? ⟨r, 4, none⟩ = some (.slice (some ⟨a.gT, 0, none⟩) n a.cT) := by rw [HN.out]; exact H9.out.rcells 4
  have y0 : w9.cell? ⟨gx, 0, none⟩ = some (.int .i64 t.st) := by rw [K9.out.cell]; rfl
  have y1 : w9.cell? ⟨gx, 1, none⟩ = some (.int .i64 t.tx) := by rw [K9.out.cell]; rfl
  have y2 : w9.cell? ⟨gx, 2, none⟩ = some (.int .i64 t.try_) := by rw [K9.out.cell]; rfl
  have y3 : w9.cell? ⟨gx, 3, none⟩ = some (.int .i64 ((pc : Int) + 1)) := by rw [K9.out.cell]; rfl
  have y4 : w9.cell? ⟨gx, 4, none⟩ = some (.int .i64 t.rv) := by rw [K9.out.cell]; rfl
  have y5 : w9.cell? ⟨gx, 5, none⟩ = some (.int .i64 t.wv) := by rw [K9.out.cell]; rfl
  have y6 : w9.cell? ⟨gx, 6, none⟩ = some (.int .i64 t.sum) := by rw [K9.out.cell]; rfl
  have y7 : w9.cell? ⟨gx, 7, none⟩ = some (.slice t.rA t.R.length t.rc) := by rw [K9.out.cell]; rfl
  have y8 : w9.cell? ⟨gx, 8, none⟩ = some (.slice A1 nw c1) := by rw [K9.out.cell]; rfl
  have y9 : w9.cell? ⟨gx, 9, none⟩ = some (.int .i64 t.i) := by rw [K9.out.cell]; rfl
  have y10 : w9.cell? ⟨gx, 10, none⟩ = some (.int .i64 t.fr) := by rw [K9.out.cell]; rfl
  have HFR := Lib.hid (fun W (hb : w9.drew.grownBy W (some a.gT)) => (show Blk W gx 46 #[.int .i64 t.st, .int .i64 t.tx, .int .i64 t.try_, .int .i64 ((pc : Int) + 1), .int .i64 t.rv, .int .i64 t.wv, .int .i64 t.sum, .slice t.rA t.R.length t.rc, .slice A1 nw c1, .int .i64 t.i, .int .i64 t.fr] from (K9.out.drew).grown hb (by intro e; injection e with e; have := HLT.out; omega)))
  refine wp_region_held_drew (S := fun W => W.cell? ⟨r, 4, none⟩ = some (.slice (some ⟨a.gT, 0, none⟩) n a.cT) ∧ W.cell? ⟨gx, 0, none⟩ = some (.int .i64 t.st) ∧ W.cell? ⟨gx, 1, none⟩ = some (.int .i64 t.tx) ∧ W.cell? ⟨gx, 2, none⟩ = some (.int .i64 t.try_) ∧ W.cell? ⟨gx, 3, none⟩ = some (.int .i64 ((pc : Int) + 1)) ∧ W.cell? ⟨gx, 4, none⟩ = some (.int .i64 t.rv) ∧ W.cell? ⟨gx, 5, none⟩ = some (.int .i64 t.wv) ∧ W.cell? ⟨gx, 6, none⟩ = some (.int .i64 t.sum) ∧ W.cell? ⟨gx, 7, none⟩ = some (.slice t.rA t.R.length t.rc) ∧ W.cell? ⟨gx, 8, none⟩ = some (.slice A1 nw c1) ∧ W.cell? ⟨gx, 9, none⟩ = some (.int .i64 t.i) ∧ W.cell? ⟨gx, 10, none⟩ = some (.int .i64 t.fr)) (by kernel_rfl) ?_ (fun hbr => ?_)
  · exact ⟨r4, y0, y1, y2, y3, y4, y5, y6, y7, y8, y9, y10⟩
  refine tkA 0 ?_
  refine tkA 1 ?_
  refine tkA 2 ?_
  refine tkA 3 ?_
  refine tkA 4 ?_
  refine tkA 5 ?_
  refine tkA 6 ?_
  refine stA 7 (fun K hK => ?_)
  refine step_rstore_tx (H9.out.keep (Below.refl _ _).drew) HK.out { t with wA := A1, wc := c1, W := writeP t.W xa xv, pc := (pc : Int) + 1 } ?hpr _ _ (by rfl) rfl rfl (by rw [HNW.out]; rfl) ?_
  case hpr => exact ⟨own_below R9.out.1 (Below.refl _ _).drew, own_below R9.out.2 (Below.refl _ _).drew⟩
  intro w2 hR2 hg2
  have HR2 := Lib.hid hR2
  have HF2 := Lib.hid (HFR.out _ hg2)
  clear hR2 hg2
  refine hK.out _ _ ?_ (fun hbr7 => ?_)
  · exact ⟨by rw [HN.out]; have := HR2.out.rcells 4; simpa [memCells] using this, by rw [HF2.out.cell]; rfl, by rw [HF2.out.cell]; rfl, by rw [HF2.out.cell]; rfl, by rw [HF2.out.cell]; rfl, by rw [HF2.out.cell]; rfl, by rw [HF2.out.cell]; rfl, by rw [HF2.out.cell]; rfl, by rw [HF2.out.cell]; rfl, by rw [HF2.out.cell]; rfl, by rw [HF2.out.cell]; rfl, by rw [HF2.out.cell]; rfl⟩
  clear hK K hbr
  try simp only [Act.put, List.setIfInBounds_toArray, List.set_cons_zero, List.set_cons_succ]
  refine wpAnyH_done (by kernel_rfl) ?_ _
  go_wp2
  first | go_end0 | refine bodyPost_ret (results_none rfl _ _ _) rfl ?_
  rw [HSP.out]
  refine ⟨rfl, _, _, HR2.out, ?_⟩
  rw [er_set, er_set, HPC.out, ← HXA.out, ← HXV.out]
  rfl

set_option maxHeartbeats 16000000 in
theorem rwork_sum {words : Nat} {txs : List (List Ac)} {pl : List (List (List Ac))} {k : Nat} {t : Tx} (h : RefW w0 w r a m) (hk : m.T[k]? = some t) (hg : Good words pl m) (gt : GoodT words txs t) (hH : m.H.length ≤ 1000) (htx : 0 ≤ t.tx ∧ t.tx ≤ 1000) (av : Value) (l : List Ac) (hl : AcV w av l) (hll : l.length ≤ 1000) (x : Ac) (hx : l[t.pc.toNat]? = some x) (hd : x.d = 2) :
    Calls Try.prog 50 #[.pointer (some ⟨r, 0, none⟩), .int .i64 (k : Int), av] w (RefP w0 r (workM l m k t)) := by
  have HSP := Lib.hid (show workM l m k t = { m with T := m.T.set k { t with W := writeP t.W x.at_ (IntKind.i64.wrap (t.sum + x.v)), pc := t.pc + 1 } } from by unfold workM; rw [hx]; simp only; unfold actM; rw [if_neg (by omega), if_pos hd])
  have hpl := (List.getElem?_eq_some_iff.1 hx).1
  obtain ⟨pc, hpc⟩ : ∃ z : Nat, t.pc = (z : Int) := ⟨t.pc.toNat, by have := gt.c0; omega⟩
  rw [hpc, Int.toNat_natCast] at hx hpl
  have HPC := Lib.hid hpc
  obtain ⟨nl, hnl⟩ : ∃ z, z = l.length := ⟨_, rfl⟩
  obtain ⟨Al, cl, rfl, _, hcm⟩ := Sl.form hl
  obtain ⟨bl, ol, rfl, hbl, hcl⟩ := Sl.pos encAc encAc_len hl (by omega)
  have hxw := (List.getElem?_eq_some_iff.1 hx).2
  have hnl9 : nl ≤ 9223372036854775807 := by obtain ⟨_, _, _, h6, h7⟩ := Sl.form hl; unfold maxLen at h7; omega
  obtain ⟨xd, hxd⟩ : ∃ z, z = x.d := ⟨_, rfl⟩
  obtain ⟨xa, hxa⟩ : ∃ z, z = x.at_ := ⟨_, rfl⟩
  obtain ⟨xv, hxv⟩ : ∃ z, z = x.v := ⟨_, rfl⟩
  have HXD := Lib.hid hxd
  have HXA := Lib.hid hxa
  have HXV := Lib.hid hxv
  have HCL := Lib.hid (fun W (hb : Below w.heap.size w W) => (show W.cell? ⟨bl, ol + pc * 3, none⟩ = some (.int .i64 xd) ∧ W.cell? ⟨bl, ol + pc * 3 + 1, none⟩ = some (.int .i64 xa) ∧ W.cell? ⟨bl, ol + pc * 3 + 2, none⟩ = some (.int .i64 xv) from
    ⟨by have := hcl W hb pc hpl 0 _ rfl; rw [hxw, ← hxd] at this; simpa using this, by have := hcl W hb pc hpl 1 _ rfl; rw [hxw, ← hxa] at this; exact this, by have := hcl W hb pc hpl 2 _ rfl; rw [hxw, ← hxv] at this; exact this⟩))
  have hp0 : (0 : Int) ≤ (pc : Int) := by omega
  have hp1 : (pc : Int) < (nl : Int) := by omega
  have hp2 : ¬ (nl : Int) ≤ (pc : Int) := by omega
  rw [← hnl]
  have hd' : xd = 2 := by rw [hxd]; exact hd
  obtain ⟨sm, hsm⟩ : ∃ z, z = t.sum := ⟨_, rfl⟩
  have HSM := Lib.hid hsm
  obtain ⟨nv, hnv⟩ : ∃ z, IntKind.i64.wrap (sm + xv) = z := ⟨_, rfl⟩
  have HNV := Lib.hid hnv
  skip
  have HWV := Lib.hid (fun W (hb : Below w.heap.size w W) => rwrite_any (.slice t.wA t.W.length t.wc) t.W xa nv W (Sl.of_own ((h.keep hb).ts hk).2) gt.ws (by have h1 := gt.wl; have h2 := gt.c1; omega))
  have b1 : (xd == 1) = false := by rw [hd']; rfl
  have b2 : (xd == 2) = true := by rw [hd']; rfl
  have b0 : (xd == 0) = false := by rw [hd']; rfl
  clear hd hd' hx hxw hcl hbl hg gt hl hpl hpc hnl hxd hxa hxv hcm hH htx hsm

  have hkl := (List.getElem?_eq_some_iff.1 hk).1
  obtain ⟨n, hn⟩ : ∃ n, n = m.T.length := ⟨_, rfl⟩
  have hk0 : (0 : Int) ≤ (k : Int) := by omega
  have hk1 : (k : Int) < (n : Int) := by omega
  have r4 : w.cell? ⟨r, 4, none⟩ = some (.slice (some ⟨a.gT, 0, none⟩) n a.cT) := by rw [hn]; exact h.rcells 4
  have t0_ := h.tcells hk (j := 0) rfl
  have t1_ := h.tcells hk (j := 1) rfl
  have t2_ := h.tcells hk (j := 2) rfl
  have t3_ := h.tcells hk (j := 3) rfl
  have t4_ := h.tcells hk (j := 4) rfl
  have t5_ := h.tcells hk (j := 5) rfl
  have t6_ := h.tcells hk (j := 6) rfl
  have t7_ := h.tcells hk (j := 7) rfl
  have t8_ := h.tcells hk (j := 8) rfl
  have t9_ := h.tcells hk (j := 9) rfl
  have t10_ := h.tcells hk (j := 10) rfl
  simp only [Nat.add_zero] at t0_
  have hap := h.apart
  have HAP := Lib.hid hap
  have HH := Lib.hid h
  have HK := Lib.hid hk
  have HN := Lib.hid hn
  have kX := Blk.new_ w 46 #[.int .i64 t.st, .int .i64 t.tx, .int .i64 t.try_, .int .i64 t.pc, .int .i64 t.rv, .int .i64 t.wv, .int .i64 t.sum, .slice t.rA t.R.length t.rc, .slice t.wA t.W.length t.wc, .int .i64 t.i, .int .i64 t.fr] _ rfl
  have hbX := Below.alloc (Below.refl w.heap.size w) (Nat.le_refl _) (.cells #[.int .i64 t.st, .int .i64 t.tx, .int .i64 t.try_, .int .i64 t.pc, .int .i64 t.rv, .int .i64 t.wv, .int .i64 t.sum, .slice t.rA t.R.length t.rc, .slice t.wA t.W.length t.wc, .int .i64 t.i, .int .i64 t.fr] 46)
  obtain ⟨wx, hwx⟩ : ∃ z, w.alloc (.cells #[.int .i64 t.st, .int .i64 t.tx, .int .i64 t.try_, .int .i64 t.pc, .int .i64 t.rv, .int .i64 t.wv, .int .i64 t.sum, .slice t.rA t.R.length t.rc, .slice t.wA t.W.length t.wc, .int .i64 t.i, .int .i64 t.fr] 46) = z := ⟨_, rfl⟩
  rw [hwx] at kX hbX
  have HX := Lib.hid (h.keep hbX)
  have HWX := Lib.hid hwx
  have HBX := Lib.hid hbX
  obtain ⟨gx, hgx⟩ : ∃ z, w.heap.size = z := ⟨_, rfl⟩
  rw [hgx] at kX
  have HGX := Lib.hid hgx
  have HKX := Lib.hid kX
  clear kX hbX hwx hgx hap h hk hn hkl
  go_enter Try.func50, Try.ntmps50
  go_upto_region 1 with fail
  rw [HWX.out, HGX.out]
  clear r4 t0_ t1_ t2_ t3_ t4_ t5_ t6_ t7_ t8_ t9_ t10_
  have HLT := Lib.hid (show a.gT < gx from by have h1 := HAP.out.2.2.2.1; have h2 := HGX.out; omega)
  have HGE := Lib.hid (show w0.heap.size ≤ gx from by have h1 := HH.out.base.size; have h2 := HGX.out; omega)
  have x3 : wx.cell? ⟨gx, 3, none⟩ = some (.int .i64 (pc : Int)) := by rw [HKX.out.cell, ← HPC.out]; rfl
  obtain ⟨c0, c1, c2⟩ := HCL.out _ HBX.out
  have kY := Blk.new_ wx 53 #[.int .i64 xd, .int .i64 xa, .int .i64 xv] _ rfl
  have hbY := Below.alloc (Below.refl wx.heap.size wx) (Nat.le_refl _) (.cells #[.int .i64 xd, .int .i64 xa, .int .i64 xv] 53)
  obtain ⟨wy, hwy⟩ : ∃ z, wx.alloc (.cells #[.int .i64 xd, .int .i64 xa, .int .i64 xv] 53) = z := ⟨_, rfl⟩
  rw [hwy] at kY hbY
  have HY := Lib.hid (HX.out.keep hbY)
  have HKXY := Lib.hid (HKX.out.keep hbY)
  have HWY := Lib.hid hwy
  have HBY := Lib.hid hbY
  have hxl := HKX.out.lt
  obtain ⟨ga, hga⟩ : ∃ z, wx.heap.size = z := ⟨_, rfl⟩
  have HGT := Lib.hid (show gx < ga from by omega)
  rw [hga] at kY
  have HGA := Lib.hid hga
  have HKY := Lib.hid kY
  clear kY hbY hwy hga hxl
  go_upto_region 7 with fail
  rw [HWY.out, HGA.out]
  clear x3 c0 c1 c2
  have y0 : wy.cell? ⟨ga, 0, none⟩ = some (.int .i64 xd) := by rw [HKY.out.cell]; rfl
  have y1 : wy.cell? ⟨ga, 1, none⟩ = some (.int .i64 xa) := by rw [HKY.out.cell]; rfl
  have y2 : wy.cell? ⟨ga, 2, none⟩ = some (.int .i64 xv) := by rw [HKY.out.cell]; rfl
  have x8 : wy.cell? ⟨gx, 8, none⟩ = some (.slice t.wA t.W.length t.wc) := by rw [HKXY.out.cell]; rfl
  have x6 : wy.cell? ⟨gx, 6, none⟩ = some (.int .i64 sm) := by rw [HKXY.out.cell, HSM.out]; rfl
  have HBY2 := Lib.hid (HBX.out.trans (HBY.out.mono HBX.out.size))
  go_wp2_with fail
  clear hnv
  refine (HWV.out _ HBY2.out).mono ?_
  rintro e w1 ⟨A1, c1, rfl, hp1, hb1⟩
  have H1 := Lib.hid (HY.out.keep hb1)
  have K1 := Lib.hid (HKXY.out.keep hb1)
  have KA1 := Lib.hid (HKY.out.keep hb1)
  have R1 := Lib.hid (PRow.mono hp1 (show w0.heap.size ≤ wy.heap.size from HY.out.base.size))
  obtain ⟨nw, hnw⟩ : ∃ z, z = (writeP t.W xa nv).length := ⟨_, rfl⟩
  rw [← hnw]
  have HNW := Lib.hid hnw
  clear x8 x6 y0 y1 y2 hp1 hb1 hnw
  have q8 : w1.cell? ⟨gx, 8, none⟩ = some (.slice t.wA t.W.length t.wc) := by rw [K1.out.cell]; rfl
  have qf := K1.out.free
  have ql := K1.out.lt
  have H2 := Lib.hid (H1.out.tbox K1.out (grown_setCell w1 ⟨gx, 8, none⟩ (.slice A1 nw c1)) (by have := HLT.out; show ¬ a.gT = gx; omega) HGE.out)
  have K2 := Lib.hid (K1.out.set_ 8 (.slice A1 nw c1))
  have KA2 := Lib.hid (KA1.out.far (p := ⟨gx, 8, none⟩) (by have := HGT.out; show ga ≠ gx; omega) (.slice A1 nw c1))
  have R2 := Lib.hid (own_ty R1.out (grown_setCell w1 ⟨gx, 8, none⟩ (.slice A1 nw c1)) K1.out (by decide))
  go_upto_region 11 with fail
  obtain ⟨w2, hw2⟩ : ∃ z, w1.setCell ⟨gx, 8, none⟩ (.slice A1 nw c1) = z := ⟨_, rfl⟩
  rw [hw2] at H2 K2 KA2 R2 ⊢
  clear hw2 q8 qf ql
  have y0 : w2.cell? ⟨ga, 0, none⟩ = some (.int .i64 xd) := by rw [KA2.out.cell]; rfl
  go_upto_region 20 with fail
  clear y0
  have RR := Lib.hid (show PRow w2 w0.heap.size t.rA t.rc t.R ∧ PRow w2 w0.heap.size A1 c1 (writeP t.W xa nv) from ⟨(H2.out.ts HK.out).1, R2.out⟩)
  have q3 : w2.cell? ⟨gx, 3, none⟩ = some (.int .i64 (pc : Int)) := by rw [K2.out.cell, ← HPC.out]; rfl
  have qf := K2.out.free
  have ql := K2.out.lt
  have hwr : IntKind.i64.wrap ((pc : Int) + 1) = (pc : Int) + 1 := by rw [IntKind.wrap_i64]; omega
  have H9 := Lib.hid (H2.out.tbox K2.out (grown_setCell w2 ⟨gx, 3, none⟩ (.int .i64 ((pc : Int) + 1))) (by have := HLT.out; show ¬ a.gT = gx; omega) HGE.out)
  have K9 := Lib.hid (K2.out.set_ 3 (.int .i64 ((pc : Int) + 1)))
  have R9 := Lib.hid (And.intro (own_ty RR.out.1 (grown_setCell w2 ⟨gx, 3, none⟩ (.int .i64 ((pc : Int) + 1))) K2.out (by decide)) (own_ty RR.out.2 (grown_setCell w2 ⟨gx, 3, none⟩ (.int .i64 ((pc : Int) + 1))) K2.out (by decide)))
  go_upto_region 21 with fail
  obtain ⟨w9, hw9⟩ : ∃ z, w2.setCell ⟨gx, 3, none⟩ (.int .i64 ((pc : Int) + 1)) = z := ⟨_, rfl⟩
  rw [hw9] at H9 K9 R9 ⊢
  clear hw9 q3 qf ql hwr
  have r4 : w9.cell? ⟨r, 4, none⟩ = some (.slice (some ⟨a.gT, 0, none⟩) n a.cT) := by rw [HN.out]; exact H9.out.rcells 4
  have y0 : w9.cell? ⟨gx, 0, none⟩ = some (.int .i64 t.st) := by rw [K9.out.cell]; rfl
  have y1 : w9.cell? ⟨gx, 1, none⟩ = some (.int .i64 t.tx) := by rw [K9.out.cell]; rfl
  have y2 : w9.cell? ⟨gx, 2, none⟩ = some (.int .i64 t.try_) := by rw [K9.out.cell]; rfl
  have y3 : w9.cell? ⟨gx, 3, none⟩ = some (.int .i64 ((pc : Int) + 1)) := by rw [K9.out.cell]; rfl
  have y4 : w9.cell? ⟨gx, 4, none⟩ = some (.int .i64 t.rv) := by rw [K9.out.cell]; rfl
  have y5 : w9.cell? ⟨gx, 5, none⟩ = some (.int .i64 t.wv) := by rw [K9.out.cell]; rfl
  have y6 : w9.cell? ⟨gx, 6, none⟩ = some (.int .i64 t.sum) := by rw [K9.out.cell]; rfl
  have y7 : w9.cell? ⟨gx, 7, none⟩ = some (.slice t.rA t.R.length t.rc) := by rw [K9.out.cell]; rfl
  have y8 : w9.cell? ⟨gx, 8, none⟩ = some (.slice A1 nw c1) := by rw [K9.out.cell]; rfl
  have y9 : w9.cell? ⟨gx, 9, none⟩ = some (.int .i64 t.i) := by rw [K9.out.cell]; rfl
  have y10 : w9.cell? ⟨gx, 10, none⟩ = some (.int .i64 t.fr) := by rw [K9.out.cell]; rfl
  have HFR := Lib.hid (fun W (hb : w9.drew.grownBy W (some a.gT)) => (show Blk W gx 46 #[.int .i64 t.st, .int .i64 t.tx, .int .i64 t.try_, .int .i64 ((pc : Int) + 1), .int .i64 t.rv, .int .i64 t.wv, .int .i64 t.sum, .slice t.rA t.R.length t.rc, .slice A1 nw c1, .int .i64 t.i, .int .i64 t.fr] from (K9.out.drew).grown hb (by intro e; injection e with e; have := HLT.out; omega)))
  refine wp_region_held_drew (S := fun W => W.cell? ⟨r, 4, none⟩ = some (.slice (some ⟨a.gT, 0, none⟩) n a.cT) ∧ W.cell? ⟨gx, 0, none⟩ = some (.int .i64 t.st) ∧ W.cell? ⟨gx, 1, none⟩ = some (.int .i64 t.tx) ∧ W.cell? ⟨gx, 2, none⟩ = some (.int .i64 t.try_) ∧ W.cell? ⟨gx, 3, none⟩ = some (.int .i64 ((pc : Int) + 1)) ∧ W.cell? ⟨gx, 4, none⟩ = some (.int .i64 t.rv) ∧ W.cell? ⟨gx, 5, none⟩ = some (.int .i64 t.wv) ∧ W.cell? ⟨gx, 6, none⟩ = some (.int .i64 t.sum) ∧ W.cell? ⟨gx, 7, none⟩ = some (.slice t.rA t.R.length t.rc) ∧ W.cell? ⟨gx, 8, none⟩ = some (.slice A1 nw c1) ∧ W.cell? ⟨gx, 9, none⟩ = some (.int .i64 t.i) ∧ W.cell? ⟨gx, 10, none⟩ = some (.int .i64 t.fr)) (by kernel_rfl) ?_ (fun hcr => ?_)
  · exact ⟨r4, y0, y1, y2, y3, y4, y5, y6, y7, y8, y9, y10⟩
  refine tkA 0 ?_
  refine tkA 1 ?_
  refine tkA 2 ?_
  refine tkA 3 ?_
  refine tkA 4 ?_
  refine tkA 5 ?_
  refine tkA 6 ?_
  refine stA 7 (fun K hK => ?_)
  refine step_rstore_tx (H9.out.keep (Below.refl _ _).drew) HK.out { t with wA := A1, wc := c1, W := writeP t.W xa nv, pc := (pc : Int) + 1 } ?hpr _ _ (by rfl) rfl rfl (by rw [HNW.out]; rfl) ?_
  case hpr => exact ⟨own_below R9.out.1 (Below.refl _ _).drew, own_below R9.out.2 (Below.refl _ _).drew⟩
  intro w2 hR2 hg2
  have HR2 := Lib.hid hR2
  have HF2 := Lib.hid (HFR.out _ hg2)
  clear hR2 hg2
  refine hK.out _ _ ?_ (fun hcr7 => ?_)
  · exact ⟨by rw [HN.out]; have := HR2.out.rcells 4; simpa [memCells] using this, by rw [HF2.out.cell]; rfl, by rw [HF2.out.cell]; rfl, by rw [HF2.out.cell]; rfl, by rw [HF2.out.cell]; rfl, by rw [HF2.out.cell]; rfl, by rw [HF2.out.cell]; rfl, by rw [HF2.out.cell]; rfl, by rw [HF2.out.cell]; rfl, by rw [HF2.out.cell]; rfl, by rw [HF2.out.cell]; rfl, by rw [HF2.out.cell]; rfl⟩
  clear hK K hcr
  try simp only [Act.put, List.setIfInBounds_toArray, List.set_cons_zero, List.set_cons_succ]
  refine wpAnyH_done (by kernel_rfl) ?_ _
  go_wp2
  first | go_end0 | refine bodyPost_ret (results_none rfl _ _ _) rfl ?_
  rw [HSP.out]
  refine ⟨rfl, _, _, HR2.out, ?_⟩
  rw [er_set, er_set, HPC.out, ← HXA.out, ← HXV.out, ← HNV.out, HSM.out]
  rfl

set_option maxHeartbeats 16000000 in
theorem rwork_blind {words : Nat} {txs : List (List Ac)} {pl : List (List (List Ac))} {k : Nat} {t : Tx} (h : RefW w0 w r a m) (hk : m.T[k]? = some t) (hg : Good words pl m) (gt : GoodT words txs t) (hH : m.H.length ≤ 1000) (htx : 0 ≤ t.tx ∧ t.tx ≤ 1000) (av : Value) (l : List Ac) (hl : AcV w av l) (hll : l.length ≤ 1000) (x : Ac) (hx : l[t.pc.toNat]? = some x) (hd : x.d = 0) (hf : ∀ p ∈ t.W, p.at_ ≠ x.at_) (hse : seesL m.now m.mx m.L x.at_ t.rv (k : Int) = false) :
    Calls Try.prog 50 #[.pointer (some ⟨r, 0, none⟩), .int .i64 (k : Int), av] w (RefP w0 r (workM l m k t)) := by
  have HSP := Lib.hid (show workM l m k t = endM m k t 1 from by unfold workM; rw [hx]; simp only; unfold actM; rw [if_neg (by omega), if_neg (by omega)]; have : getP m k t x.at_ = none := getP_none hf hse; rw [this])
  have hpl := (List.getElem?_eq_some_iff.1 hx).1
  obtain ⟨pc, hpc⟩ : ∃ z : Nat, t.pc = (z : Int) := ⟨t.pc.toNat, by have := gt.c0; omega⟩
  rw [hpc, Int.toNat_natCast] at hx hpl
  have HPC := Lib.hid hpc
  obtain ⟨nl, hnl⟩ : ∃ z, z = l.length := ⟨_, rfl⟩
  obtain ⟨Al, cl, rfl, _, hcm⟩ := Sl.form hl
  obtain ⟨bl, ol, rfl, hbl, hcl⟩ := Sl.pos encAc encAc_len hl (by omega)
  have hxw := (List.getElem?_eq_some_iff.1 hx).2
  have hnl9 : nl ≤ 9223372036854775807 := by obtain ⟨_, _, _, h6, h7⟩ := Sl.form hl; unfold maxLen at h7; omega
  obtain ⟨xd, hxd⟩ : ∃ z, z = x.d := ⟨_, rfl⟩
  obtain ⟨xa, hxa⟩ : ∃ z, z = x.at_ := ⟨_, rfl⟩
  obtain ⟨xv, hxv⟩ : ∃ z, z = x.v := ⟨_, rfl⟩
  have HXD := Lib.hid hxd
  have HXA := Lib.hid hxa
  have HXV := Lib.hid hxv
  have HCL := Lib.hid (fun W (hb : Below w.heap.size w W) => (show W.cell? ⟨bl, ol + pc * 3, none⟩ = some (.int .i64 xd) ∧ W.cell? ⟨bl, ol + pc * 3 + 1, none⟩ = some (.int .i64 xa) ∧ W.cell? ⟨bl, ol + pc * 3 + 2, none⟩ = some (.int .i64 xv) from
    ⟨by have := hcl W hb pc hpl 0 _ rfl; rw [hxw, ← hxd] at this; simpa using this, by have := hcl W hb pc hpl 1 _ rfl; rw [hxw, ← hxa] at this; exact this, by have := hcl W hb pc hpl 2 _ rfl; rw [hxw, ← hxv] at this; exact this⟩))
  have hp0 : (0 : Int) ≤ (pc : Int) := by omega
  have hp1 : (pc : Int) < (nl : Int) := by omega
  have hp2 : ¬ (nl : Int) ≤ (pc : Int) := by omega
  rw [← hnl]
  have hd' : xd = 0 := by rw [hxd]; exact hd
  obtain ⟨sm, hsm⟩ : ∃ z, z = t.sum := ⟨_, rfl⟩
  have HSM := Lib.hid hsm
  have HSB := Lib.hid (show seesL m.now m.mx m.L xa t.rv (k : Int) = false from by rw [hxa]; exact hse)
  have hf' : ∀ p ∈ t.W, p.at_ ≠ xa := by rw [hxa]; exact hf
  have HFI := Lib.hid (fun W (hb : Below w.heap.size w W) => (show Calls Try.prog 73 #[.slice t.wA t.W.length t.wc, .int .i64 xa] W fun e w' => e = .returned (.int .i64 (-1)) ∧ Below W.heap.size W w' from by
    have h1 := rfind_any (.slice t.wA t.W.length t.wc) t.W xa W (Sl.of_own ((h.keep hb).ts hk).2)
    rw [rfind_none hf'] at h1
    exact h1))
  have b1 : (xd == 1) = false := by rw [hd']; rfl
  have b2 : (xd == 2) = false := by rw [hd']; rfl
  have b0 : (xd == 0) = true := by rw [hd']; rfl
  have HMAY := Lib.hid hg.may
  have HWN := Lib.hid (show m.W.length = words from hg.W)
  clear hd hd' hx hxw hcl hbl hg gt hl hpl hpc hnl hxd hxa hxv hcm hsm hf hf' hse

  have hkl := (List.getElem?_eq_some_iff.1 hk).1
  obtain ⟨n, hn⟩ : ∃ n, n = m.T.length := ⟨_, rfl⟩
  have hk0 : (0 : Int) ≤ (k : Int) := by omega
  have hk1 : (k : Int) < (n : Int) := by omega
  have r4 : w.cell? ⟨r, 4, none⟩ = some (.slice (some ⟨a.gT, 0, none⟩) n a.cT) := by rw [hn]; exact h.rcells 4
  have t0_ := h.tcells hk (j := 0) rfl
  have t1_ := h.tcells hk (j := 1) rfl
  have t2_ := h.tcells hk (j := 2) rfl
  have t3_ := h.tcells hk (j := 3) rfl
  have t4_ := h.tcells hk (j := 4) rfl
  have t5_ := h.tcells hk (j := 5) rfl
  have t6_ := h.tcells hk (j := 6) rfl
  have t7_ := h.tcells hk (j := 7) rfl
  have t8_ := h.tcells hk (j := 8) rfl
  have t9_ := h.tcells hk (j := 9) rfl
  have t10_ := h.tcells hk (j := 10) rfl
  simp only [Nat.add_zero] at t0_
  have hap := h.apart
  have HAP := Lib.hid hap
  have HH := Lib.hid h
  have HK := Lib.hid hk
  have HN := Lib.hid hn
  have kX := Blk.new_ w 46 #[.int .i64 t.st, .int .i64 t.tx, .int .i64 t.try_, .int .i64 t.pc, .int .i64 t.rv, .int .i64 t.wv, .int .i64 t.sum, .slice t.rA t.R.length t.rc, .slice t.wA t.W.length t.wc, .int .i64 t.i, .int .i64 t.fr] _ rfl
  have hbX := Below.alloc (Below.refl w.heap.size w) (Nat.le_refl _) (.cells #[.int .i64 t.st, .int .i64 t.tx, .int .i64 t.try_, .int .i64 t.pc, .int .i64 t.rv, .int .i64 t.wv, .int .i64 t.sum, .slice t.rA t.R.length t.rc, .slice t.wA t.W.length t.wc, .int .i64 t.i, .int .i64 t.fr] 46)
  obtain ⟨wx, hwx⟩ : ∃ z, w.alloc (.cells #[.int .i64 t.st, .int .i64 t.tx, .int .i64 t.try_, .int .i64 t.pc, .int .i64 t.rv, .int .i64 t.wv, .int .i64 t.sum, .slice t.rA t.R.length t.rc, .slice t.wA t.W.length t.wc, .int .i64 t.i, .int .i64 t.fr] 46) = z := ⟨_, rfl⟩
  rw [hwx] at kX hbX
  have HX := Lib.hid (h.keep hbX)
  have HWX := Lib.hid hwx
  have HBX := Lib.hid hbX
  obtain ⟨gx, hgx⟩ : ∃ z, w.heap.size = z := ⟨_, rfl⟩
  rw [hgx] at kX
  have HGX := Lib.hid hgx
  have HKX := Lib.hid kX
  clear kX hbX hwx hgx hap h hk hn hkl
  go_enter Try.func50, Try.ntmps50
  go_upto_region 1 with fail
  rw [HWX.out, HGX.out]
  clear r4 t0_ t1_ t2_ t3_ t4_ t5_ t6_ t7_ t8_ t9_ t10_
  have HLT := Lib.hid (show a.gT < gx from by have h1 := HAP.out.2.2.2.1; have h2 := HGX.out; omega)
  have HGE := Lib.hid (show w0.heap.size ≤ gx from by have h1 := HH.out.base.size; have h2 := HGX.out; omega)
  have x3 : wx.cell? ⟨gx, 3, none⟩ = some (.int .i64 (pc : Int)) := by rw [HKX.out.cell, ← HPC.out]; rfl
  obtain ⟨c0, c1, c2⟩ := HCL.out _ HBX.out
  have kY := Blk.new_ wx 53 #[.int .i64 xd, .int .i64 xa, .int .i64 xv] _ rfl
  have hbY := Below.alloc (Below.refl wx.heap.size wx) (Nat.le_refl _) (.cells #[.int .i64 xd, .int .i64 xa, .int .i64 xv] 53)
  obtain ⟨wy, hwy⟩ : ∃ z, wx.alloc (.cells #[.int .i64 xd, .int .i64 xa, .int .i64 xv] 53) = z := ⟨_, rfl⟩
  rw [hwy] at kY hbY
  have HY := Lib.hid (HX.out.keep hbY)
  have HKXY := Lib.hid (HKX.out.keep hbY)
  have HWY := Lib.hid hwy
  have HBY := Lib.hid hbY
  have hxl := HKX.out.lt
  obtain ⟨ga, hga⟩ : ∃ z, wx.heap.size = z := ⟨_, rfl⟩
  have HGT := Lib.hid (show gx < ga from by omega)
  rw [hga] at kY
  have HGA := Lib.hid hga
  have HKY := Lib.hid kY
  clear kY hbY hwy hga hxl
  go_upto_region 7 with fail
  rw [HWY.out, HGA.out]
  clear x3 c0 c1 c2
  have y0 : wy.cell? ⟨ga, 0, none⟩ = some (.int .i64 xd) := by rw [HKY.out.cell]; rfl
  have y1 : wy.cell? ⟨ga, 1, none⟩ = some (.int .i64 xa) := by rw [HKY.out.cell]; rfl
  have y2 : wy.cell? ⟨ga, 2, none⟩ = some (.int .i64 xv) := by rw [HKY.out.cell]; rfl
  have x8 : wy.cell? ⟨gx, 8, none⟩ = some (.slice t.wA t.W.length t.wc) := by rw [HKXY.out.cell]; rfl
  have HBY2 := Lib.hid (HBX.out.trans (HBY.out.mono HBX.out.size))
  go_wp2_with fail
  refine (HFI.out _ HBY2.out).mono ?_
  rintro e w1 ⟨rfl, hb1⟩
  have H1 := Lib.hid (HY.out.keep hb1)
  have K1 := Lib.hid (HKXY.out.keep hb1)
  have KA1 := Lib.hid (HKY.out.keep hb1)
  have HB1 := Lib.hid (HBY2.out.trans (hb1.mono HBY2.out.size))
  clear x8 y0 y1 y2 hb1
  have HC := Lib.hid (fun W (hb : Below w1.heap.size w1 W) => (show W.cell? ⟨r, 1, none⟩ = some (.int .i64 m.now) ∧ W.cell? ⟨r, 2, none⟩ = some (.int .i64 m.mx) ∧ W.cell? ⟨r, 3, none⟩ = some (.slice a.lA m.L.length a.lc) ∧ W.cell? ⟨ga, 1, none⟩ = some (.int .i64 xa) ∧ W.cell? ⟨gx, 4, none⟩ = some (.int .i64 t.rv) from ⟨(H1.out.keep hb).rcells 1, (H1.out.keep hb).rcells 2, (H1.out.keep hb).rcells 3, by rw [(KA1.out.keep hb).cell]; rfl, by rw [(K1.out.keep hb).cell]; rfl⟩))
  have HSE := Lib.hid (fun W (hb : Below w1.heap.size w1 W) => RSees_any (.agg #[.int .i64 m.now, .int .i64 m.mx, .slice a.lA m.L.length a.lc]) m.now m.mx xa t.rv (k : Int) m.L W ((H1.out.keep hb).lk.to))
  rw [HSB.out] at HSE
  go_upto_region 13 with fail
  refine wp_region_held_drew (S := fun W => W.cell? ⟨r, 1, none⟩ = some (.int .i64 m.now) ∧ W.cell? ⟨r, 2, none⟩ = some (.int .i64 m.mx) ∧ W.cell? ⟨r, 3, none⟩ = some (.slice a.lA m.L.length a.lc) ∧ W.cell? ⟨ga, 1, none⟩ = some (.int .i64 xa) ∧ W.cell? ⟨gx, 4, none⟩ = some (.int .i64 t.rv)) (by kernel_rfl) ?_ (fun hdr => ?_)
  · exact HC.out _ (Below.refl _ _).drew
  refine tkA 0 ?_
  refine tkA 1 ?_
  refine tkA 2 ?_
  refine tkA 3 ?_
  refine tkA 4 ?_
  refine tkA 5 ?_
  refine tkA 6 ?_
  refine tkA 7 ?_
  refine tkA 8 ?_
  refine stA 9 (fun K hK => ?_)
  go_simp
  refine (HSE.out _ (Below.refl _ _).drew).mono ?_
  rintro e w3 ⟨rfl, hb3⟩
  have HB3 := Lib.hid (show Below w1.heap.size w1 w3 from (Below.refl _ _).drew.trans hb3)
  clear hb3
  try go_wp2_with fail
  refine hK.out _ _ ?_ (fun hdr9 => ?_)
  · exact HC.out _ HB3.out
  clear hK K hdr
  try simp only [Act.put, List.setIfInBounds_toArray, List.set_cons_zero, List.set_cons_succ]
  refine stA 10 (fun K hK => ?_)
  go_simp
  refine hK.out _ _ ?_ (fun hdr10 => ?_)
  · exact HC.out _ HB3.out
  clear hK K hdr9
  try simp only [Act.put, List.setIfInBounds_toArray, List.set_cons_zero, List.set_cons_succ]
  refine wpAnyH_done (by kernel_rfl) ?_ _
  have H3 := Lib.hid (H1.out.keep HB3.out)
  have K3 := Lib.hid (K1.out.keep HB3.out)
  have KA3 := Lib.hid (KA1.out.keep HB3.out)
  have HBB3 := Lib.hid (HB1.out.trans (HB3.out.mono HB1.out.size))

  have HQT := Lib.hid (rend_any H3.out HK.out 1 hH htx)
  clear hH htx
  go_wp2_with fail
  refine HQT.out.mono ?_
  rintro e w5 ⟨rfl, hp⟩
  have HP := Lib.hid hp
  clear hp
  go_wp2
  first | go_end0 | refine bodyPost_ret (results_none rfl _ _ _) rfl ?_
  rw [HSP.out]
  exact ⟨rfl, HP.out⟩

set_option maxHeartbeats 16000000 in
theorem rwork_own {words : Nat} {txs : List (List Ac)} {pl : List (List (List Ac))} {k : Nat} {t : Tx} (h : RefW w0 w r a m) (hk : m.T[k]? = some t) (hg : Good words pl m) (gt : GoodT words txs t) (hH : m.H.length ≤ 1000) (htx : 0 ≤ t.tx ∧ t.tx ≤ 1000) (av : Value) (l : List Ac) (hl : AcV w av l) (hll : l.length ≤ 1000) (x : Ac) (hx : l[t.pc.toNat]? = some x) (hd : x.d = 0) (q : Nat) (p : Pr) (hq : t.W.findIdx (fun p => p.at_ == x.at_) = q) (hp : t.W[q]? = some p) :
    Calls Try.prog 50 #[.pointer (some ⟨r, 0, none⟩), .int .i64 (k : Int), av] w (RefP w0 r (workM l m k t)) := by
  have HSP := Lib.hid (show workM l m k t = { m with T := m.T.set k { t with sum := IntKind.i64.wrap (t.sum + p.v), pc := t.pc + 1 } } from by unfold workM; rw [hx]; simp only; unfold actM; rw [if_neg (by omega), if_neg (by omega)]; have : getP m k t x.at_ = some (p.v, t.R) := (by unfold getP; rw [hq, hp]); rw [this])
  have hpl := (List.getElem?_eq_some_iff.1 hx).1
  obtain ⟨pc, hpc⟩ : ∃ z : Nat, t.pc = (z : Int) := ⟨t.pc.toNat, by have := gt.c0; omega⟩
  rw [hpc, Int.toNat_natCast] at hx hpl
  have HPC := Lib.hid hpc
  obtain ⟨nl, hnl⟩ : ∃ z, z = l.length := ⟨_, rfl⟩
  obtain ⟨Al, cl, rfl, _, hcm⟩ := Sl.form hl
  obtain ⟨bl, ol, rfl, hbl, hcl⟩ := Sl.pos encAc encAc_len hl (by omega)
  have hxw := (List.getElem?_eq_some_iff.1 hx).2
  have hnl9 : nl ≤ 9223372036854775807 := by obtain ⟨_, _, _, h6, h7⟩ := Sl.form hl; unfold maxLen at h7; omega
  obtain ⟨xd, hxd⟩ : ∃ z, z = x.d := ⟨_, rfl⟩
  obtain ⟨xa, hxa⟩ : ∃ z, z = x.at_ := ⟨_, rfl⟩
  obtain ⟨xv, hxv⟩ : ∃ z, z = x.v := ⟨_, rfl⟩
  have HXD := Lib.hid hxd
  have HXA := Lib.hid hxa
  have HXV := Lib.hid hxv
  have HCL := Lib.hid (fun W (hb : Below w.heap.size w W) => (show W.cell? ⟨bl, ol + pc * 3, none⟩ = some (.int .i64 xd) ∧ W.cell? ⟨bl, ol + pc * 3 + 1, none⟩ = some (.int .i64 xa) ∧ W.cell? ⟨bl, ol + pc * 3 + 2, none⟩ = some (.int .i64 xv) from
    ⟨by have := hcl W hb pc hpl 0 _ rfl; rw [hxw, ← hxd] at this; simpa using this, by have := hcl W hb pc hpl 1 _ rfl; rw [hxw, ← hxa] at this; exact this, by have := hcl W hb pc hpl 2 _ rfl; rw [hxw, ← hxv] at this; exact this⟩))
  have hp0 : (0 : Int) ≤ (pc : Int) := by omega
  have hp1 : (pc : Int) < (nl : Int) := by omega
  have hp2 : ¬ (nl : Int) ≤ (pc : Int) := by omega
  rw [← hnl]
  have hd' : xd = 0 := by rw [hxd]; exact hd
  obtain ⟨sm, hsm⟩ : ∃ z, z = t.sum := ⟨_, rfl⟩
  have HSM := Lib.hid hsm
  obtain ⟨nw, hnw⟩ : ∃ z, z = t.W.length := ⟨_, rfl⟩
  have HNW := Lib.hid hnw
  have hql := (List.getElem?_eq_some_iff.1 hp).1
  have hqn : (q : Int) < (nw : Int) := by omega
  have hq0 : (0 : Int) ≤ (q : Int) := by omega
  obtain ⟨bw, ow, ew, hbw, hcw⟩ := Sl.pos encPr encPr_len (Sl.of_own (h.ts hk).2) (by omega)
  have hpw := (List.getElem?_eq_some_iff.1 hp).2
  obtain ⟨pv, hpv⟩ : ∃ z, z = p.v := ⟨_, rfl⟩
  have HPV := Lib.hid hpv
  have HCW := Lib.hid (fun W (hb : Below w.heap.size w W) => (show W.cell? ⟨bw, ow + q * 2 + 1, none⟩ = some (.int .i64 pv) from by have := hcw W hb q hql 1 _ rfl; rw [hpw, ← hpv] at this; exact this))
  have HEW := Lib.hid ew
  have HBWL := Lib.hid hbw
  obtain ⟨nv, hnv⟩ : ∃ z, IntKind.i64.wrap (sm + pv) = z := ⟨_, rfl⟩
  have HNV := Lib.hid hnv
  have HFI := Lib.hid (fun W (hb : Below w.heap.size w W) => (show Calls Try.prog 73 #[.slice t.wA t.W.length t.wc, .int .i64 xa] W fun e w' => e = .returned (.int .i64 (q : Int)) ∧ Below W.heap.size W w' from by
    have h1 := rfind_any (.slice t.wA t.W.length t.wc) t.W xa W (Sl.of_own ((h.keep hb).ts hk).2)
    rw [rfind_some (by rw [hxa]; exact hq) hql] at h1
    exact h1))
  have b1 : (xd == 1) = false := by rw [hd']; rfl
  have b2 : (xd == 2) = false := by rw [hd']; rfl
  have b0 : (xd == 0) = true := by rw [hd']; rfl
  have HMAY := Lib.hid hg.may
  have HWN := Lib.hid (show m.W.length = words from hg.W)
  clear hd hd' hx hxw hcl hbl hg gt hl hpl hpc hnl hxd hxa hxv hcm hsm hq hp hpw hcw hbw ew hnw hql hpv

  have hkl := (List.getElem?_eq_some_iff.1 hk).1
  obtain ⟨n, hn⟩ : ∃ n, n = m.T.length := ⟨_, rfl⟩
  have hk0 : (0 : Int) ≤ (k : Int) := by omega
  have hk1 : (k : Int) < (n : Int) := by omega
  have r4 : w.cell? ⟨r, 4, none⟩ = some (.slice (some ⟨a.gT, 0, none⟩) n a.cT) := by rw [hn]; exact h.rcells 4
  have t0_ := h.tcells hk (j := 0) rfl
  have t1_ := h.tcells hk (j := 1) rfl
  have t2_ := h.tcells hk (j := 2) rfl
  have t3_ := h.tcells hk (j := 3) rfl
  have t4_ := h.tcells hk (j := 4) rfl
  have t5_ := h.tcells hk (j := 5) rfl
  have t6_ := h.tcells hk (j := 6) rfl
  have t7_ := h.tcells hk (j := 7) rfl
  have t8_ := h.tcells hk (j := 8) rfl
  have t9_ := h.tcells hk (j := 9) rfl
  have t10_ := h.tcells hk (j := 10) rfl
  simp only [Nat.add_zero] at t0_
  have hap := h.apart
  have HAP := Lib.hid hap
  have HH := Lib.hid h
  have HK := Lib.hid hk
  have HN := Lib.hid hn
  have kX := Blk.new_ w 46 #[.int .i64 t.st, .int .i64 t.tx, .int .i64 t.try_, .int .i64 t.pc, .int .i64 t.rv, .int .i64 t.wv, .int .i64 t.sum, .slice t.rA t.R.length t.rc, .slice t.wA t.W.length t.wc, .int .i64 t.i, .int .i64 t.fr] _ rfl
  have hbX := Below.alloc (Below.refl w.heap.size w) (Nat.le_refl _) (.cells #[.int .i64 t.st, .int .i64 t.tx, .int .i64 t.try_, .int .i64 t.pc, .int .i64 t.rv, .int .i64 t.wv, .int .i64 t.sum, .slice t.rA t.R.length t.rc, .slice t.wA t.W.length t.wc, .int .i64 t.i, .int .i64 t.fr] 46)
  obtain ⟨wx, hwx⟩ : ∃ z, w.alloc (.cells #[.int .i64 t.st, .int .i64 t.tx, .int .i64 t.try_, .int .i64 t.pc, .int .i64 t.rv, .int .i64 t.wv, .int .i64 t.sum, .slice t.rA t.R.length t.rc, .slice t.wA t.W.length t.wc, .int .i64 t.i, .int .i64 t.fr] 46) = z := ⟨_, rfl⟩
  rw [hwx] at kX hbX
  have HX := Lib.hid (h.keep hbX)
  have HWX := Lib.hid hwx
  have HBX := Lib.hid hbX
  obtain ⟨gx, hgx⟩ : ∃ z, w.heap.size = z := ⟨_, rfl⟩
  rw [hgx] at kX
  have HGX := Lib.hid hgx
  have HKX := Lib.hid kX
  clear kX hbX hwx hgx hap h hk hn hkl
  go_enter Try.func50, Try.ntmps50
  go_upto_region 1 with fail
  rw [HWX.out, HGX.out]
  clear r4 t0_ t1_ t2_ t3_ t4_ t5_ t6_ t7_ t8_ t9_ t10_
  have HLT := Lib.hid (show a.gT < gx from by have h1 := HAP.out.2.2.2.1; have h2 := HGX.out; omega)
  have HGE := Lib.hid (show w0.heap.size ≤ gx from by have h1 := HH.out.base.size; have h2 := HGX.out; omega)
  have x3 : wx.cell? ⟨gx, 3, none⟩ = some (.int .i64 (pc : Int)) := by rw [HKX.out.cell, ← HPC.out]; rfl
  obtain ⟨c0, c1, c2⟩ := HCL.out _ HBX.out
  have kY := Blk.new_ wx 53 #[.int .i64 xd, .int .i64 xa, .int .i64 xv] _ rfl
  have hbY := Below.alloc (Below.refl wx.heap.size wx) (Nat.le_refl _) (.cells #[.int .i64 xd, .int .i64 xa, .int .i64 xv] 53)
  obtain ⟨wy, hwy⟩ : ∃ z, wx.alloc (.cells #[.int .i64 xd, .int .i64 xa, .int .i64 xv] 53) = z := ⟨_, rfl⟩
  rw [hwy] at kY hbY
  have HY := Lib.hid (HX.out.keep hbY)
  have HKXY := Lib.hid (HKX.out.keep hbY)
  have HWY := Lib.hid hwy
  have HBY := Lib.hid hbY
  have hxl := HKX.out.lt
  obtain ⟨ga, hga⟩ : ∃ z, wx.heap.size = z := ⟨_, rfl⟩
  have HGT := Lib.hid (show gx < ga from by omega)
  rw [hga] at kY
  have HGA := Lib.hid hga
  have HKY := Lib.hid kY
  clear kY hbY hwy hga hxl
  go_upto_region 7 with fail
  rw [HWY.out, HGA.out]
  clear x3 c0 c1 c2
  have y0 : wy.cell? ⟨ga, 0, none⟩ = some (.int .i64 xd) := by rw [HKY.out.cell]; rfl
  have y1 : wy.cell? ⟨ga, 1, none⟩ = some (.int .i64 xa) := by rw [HKY.out.cell]; rfl
  have y2 : wy.cell? ⟨ga, 2, none⟩ = some (.int .i64 xv) := by rw [HKY.out.cell]; rfl
  have x8 : wy.cell? ⟨gx, 8, none⟩ = some (.slice t.wA t.W.length t.wc) := by rw [HKXY.out.cell]; rfl
  have HBY2 := Lib.hid (HBX.out.trans (HBY.out.mono HBX.out.size))
  go_wp2_with fail
  refine (HFI.out _ HBY2.out).mono ?_
  rintro e w1 ⟨rfl, hb1⟩
  have H1 := Lib.hid (HY.out.keep hb1)
  have K1 := Lib.hid (HKXY.out.keep hb1)
  have KA1 := Lib.hid (HKY.out.keep hb1)
  have HB1 := Lib.hid (HBY2.out.trans (hb1.mono HBY2.out.size))
  clear x8 y0 y1 y2 hb1
  have HC := Lib.hid (fun W (hb : Below w1.heap.size w1 W) => (show W.cell? ⟨r, 1, none⟩ = some (.int .i64 m.now) ∧ W.cell? ⟨r, 2, none⟩ = some (.int .i64 m.mx) ∧ W.cell? ⟨r, 3, none⟩ = some (.slice a.lA m.L.length a.lc) ∧ W.cell? ⟨ga, 1, none⟩ = some (.int .i64 xa) ∧ W.cell? ⟨gx, 4, none⟩ = some (.int .i64 t.rv) from ⟨(H1.out.keep hb).rcells 1, (H1.out.keep hb).rcells 2, (H1.out.keep hb).rcells 3, by rw [(KA1.out.keep hb).cell]; rfl, by rw [(K1.out.keep hb).cell]; rfl⟩))
  have HSE := Lib.hid (fun W (hb : Below w1.heap.size w1 W) => RSees_any (.agg #[.int .i64 m.now, .int .i64 m.mx, .slice a.lA m.L.length a.lc]) m.now m.mx xa t.rv (k : Int) m.L W ((H1.out.keep hb).lk.to))
  go_upto_region 13 with fail
  refine wp_region_held_drew (S := fun W => W.cell? ⟨r, 1, none⟩ = some (.int .i64 m.now) ∧ W.cell? ⟨r, 2, none⟩ = some (.int .i64 m.mx) ∧ W.cell? ⟨r, 3, none⟩ = some (.slice a.lA m.L.length a.lc) ∧ W.cell? ⟨ga, 1, none⟩ = some (.int .i64 xa) ∧ W.cell? ⟨gx, 4, none⟩ = some (.int .i64 t.rv)) (by kernel_rfl) ?_ (fun her => ?_)
  · exact HC.out _ (Below.refl _ _).drew
  refine tkA 0 ?_
  refine tkA 1 ?_
  refine tkA 2 ?_
  refine tkA 3 ?_
  refine tkA 4 ?_
  refine tkA 5 ?_
  refine tkA 6 ?_
  refine tkA 7 ?_
  refine tkA 8 ?_
  refine stA 9 (fun K hK => ?_)
  go_simp
  refine (HSE.out _ (Below.refl _ _).drew).mono ?_
  rintro e w3 ⟨rfl, hb3⟩
  have HB3 := Lib.hid (show Below w1.heap.size w1 w3 from (Below.refl _ _).drew.trans hb3)
  clear hb3
  try go_wp2_with fail
  refine hK.out _ _ ?_ (fun her9 => ?_)
  · exact HC.out _ HB3.out
  clear hK K her
  try simp only [Act.put, List.setIfInBounds_toArray, List.set_cons_zero, List.set_cons_succ]
  refine stA 10 (fun K hK => ?_)
  go_simp
  refine hK.out _ _ ?_ (fun her10 => ?_)
  · exact HC.out _ HB3.out
  clear hK K her9
  try simp only [Act.put, List.setIfInBounds_toArray, List.set_cons_zero, List.set_cons_succ]
  refine wpAnyH_done (by kernel_rfl) ?_ _
  have H3 := Lib.hid (H1.out.keep HB3.out)
  have K3 := Lib.hid (K1.out.keep HB3.out)
  have KA3 := Lib.hid (KA1.out.keep HB3.out)
  have HBB3 := Lib.hid (HB1.out.trans (HB3.out.mono HB1.out.size))

  clear hH htx
  have hq2 : ¬ (q : Int) < 0 := by omega
  have S3 := Lib.hid (fun W (hb : Below w3.heap.size w3 W) => (show W.cell? ⟨gx, 8, none⟩ = some (.slice (some ⟨bw, ow, none⟩) nw t.wc) ∧ W.cell? ⟨bw, ow + q * 2 + 1, none⟩ = some (.int .i64 pv) from ⟨by rw [(K3.out.keep hb).cell, ← HEW.out, HNW.out]; rfl, HCW.out W (HBB3.out.trans (hb.mono HBB3.out.size))⟩))
  go_upto_region 17 with fail
  obtain ⟨z8, zp⟩ := S3.out _ (Below.refl _ _).drew
  have q6 : w3.cell? ⟨gx, 6, none⟩ = some (.int .i64 sm) := by rw [K3.out.cell, HSM.out]; rfl
  have qf := K3.out.free
  have ql := K3.out.lt
  have hbne : ¬ gx = bw := by have h1 := HBWL.out; have h2 := HGX.out; omega
  refine wp_region_held_drew (S := fun W => W.cell? ⟨gx, 8, none⟩ = some (.slice (some ⟨bw, ow, none⟩) nw t.wc) ∧ W.cell? ⟨bw, ow + q * 2 + 1, none⟩ = some (.int .i64 pv)) (by kernel_rfl) ?_ (fun hfr => ?_)
  · exact ⟨z8, zp⟩
  refine tkA 0 ?_
  refine tkA 2 ?_
  refine tkA 3 ?_
  refine tkA 4 ?_
  refine tkA 5 ?_
  refine tkA 6 ?_
  refine tkA 7 ?_
  refine stA 1 (fun K hK => ?_)
  go_simp
  refine hK.out _ _ ?_ (fun hfr1b8 => ?_)
  · exact ⟨z8, zp⟩
  clear hK K hfr
  try simp only [Act.put, List.setIfInBounds_toArray, List.set_cons_zero, List.set_cons_succ]
  refine tkA 8 ?_
  refine tkA 9 ?_
  refine stA 10 (fun K hK => ?_)
  go_simp
  refine hK.out _ _ ?_ (fun hfr10b11 => ?_)
  · exact ⟨by go_simp <;> exact z8, by go_simp <;> exact zp⟩
  clear hK K hfr1b8
  try simp only [Act.put, List.setIfInBounds_toArray, List.set_cons_zero, List.set_cons_succ]
  refine wpAnyH_done (by kernel_rfl) ?_ _
  skip
  have H4 := Lib.hid ((H3.out.tbox K3.out (grown_setCell w3 ⟨gx, 6, none⟩ (.int .i64 nv)) (by have := HLT.out; show ¬ a.gT = gx; omega) HGE.out).keep (Below.refl _ _).drew)
  have K4 := Lib.hid ((K3.out.set_ 6 (.int .i64 nv)).drew)
  go_upto_region 20 with fail
  obtain ⟨w4, hw4⟩ : ∃ z, (w3.setCell ⟨gx, 6, none⟩ (.int .i64 nv)).drew = z := ⟨_, rfl⟩
  rw [hw4] at H4 K4 ⊢
  clear hw4 z8 zp q6 qf ql hbne hnv
  have RR := Lib.hid (show PRow w4 w0.heap.size t.rA t.rc t.R ∧ PRow w4 w0.heap.size t.wA t.wc t.W from H4.out.ts HK.out)
  have q3 : w4.cell? ⟨gx, 3, none⟩ = some (.int .i64 (pc : Int)) := by rw [K4.out.cell, ← HPC.out]; rfl
  have qf := K4.out.free
  have ql := K4.out.lt
  have hwr : IntKind.i64.wrap ((pc : Int) + 1) = (pc : Int) + 1 := by rw [IntKind.wrap_i64]; omega
  have H9 := Lib.hid (H4.out.tbox K4.out (grown_setCell w4 ⟨gx, 3, none⟩ (.int .i64 ((pc : Int) + 1))) (by have := HLT.out; show ¬ a.gT = gx; omega) HGE.out)
  have K9 := Lib.hid (K4.out.set_ 3 (.int .i64 ((pc : Int) + 1)))
  have R9 := Lib.hid (And.intro (own_ty RR.out.1 (grown_setCell w4 ⟨gx, 3, none⟩ (.int .i64 ((pc : Int) + 1))) K4.out (by decide)) (own_ty RR.out.2 (grown_setCell w4 ⟨gx, 3, none⟩ (.int .i64 ((pc : Int) + 1))) K4.out (by decide)))
  go_upto_region 21 with fail
  obtain ⟨w9, hw9⟩ : ∃ z, w4.setCell ⟨gx, 3, none⟩ (.int .i64 ((pc : Int) + 1)) = z := ⟨_, rfl⟩
  rw [hw9] at H9 K9 R9 ⊢
  clear hw9 q3 qf ql hwr
  have r4 : w9.cell? ⟨r, 4, none⟩ = some (.slice (some ⟨a.gT, 0, none⟩) n a.cT) := by rw [HN.out]; exact H9.out.rcells 4
  have y0 : w9.cell? ⟨gx, 0, none⟩ = some (.int .i64 t.st) := by rw [K9.out.cell]; rfl
  have y1 : w9.cell? ⟨gx, 1, none⟩ = some (.int .i64 t.tx) := by rw [K9.out.cell]; rfl
  have y2 : w9.cell? ⟨gx, 2, none⟩ = some (.int .i64 t.try_) := by rw [K9.out.cell]; rfl
  have y3 : w9.cell? ⟨gx, 3, none⟩ = some (.int .i64 ((pc : Int) + 1)) := by rw [K9.out.cell]; rfl
  have y4 : w9.cell? ⟨gx, 4, none⟩ = some (.int .i64 t.rv) := by rw [K9.out.cell]; rfl
  have y5 : w9.cell? ⟨gx, 5, none⟩ = some (.int .i64 t.wv) := by rw [K9.out.cell]; rfl
  have y6 : w9.cell? ⟨gx, 6, none⟩ = some (.int .i64 nv) := by rw [K9.out.cell]; rfl
  have y7 : w9.cell? ⟨gx, 7, none⟩ = some (.slice t.rA t.R.length t.rc) := by rw [K9.out.cell]; rfl
  have y8 : w9.cell? ⟨gx, 8, none⟩ = some (.slice t.wA t.W.length t.wc) := by rw [K9.out.cell]; rfl
  have y9 : w9.cell? ⟨gx, 9, none⟩ = some (.int .i64 t.i) := by rw [K9.out.cell]; rfl
  have y10 : w9.cell? ⟨gx, 10, none⟩ = some (.int .i64 t.fr) := by rw [K9.out.cell]; rfl
  have HFR := Lib.hid (fun W (hb : w9.drew.grownBy W (some a.gT)) => (show Blk W gx 46 #[.int .i64 t.st, .int .i64 t.tx, .int .i64 t.try_, .int .i64 ((pc : Int) + 1), .int .i64 t.rv, .int .i64 t.wv, .int .i64 nv, .slice t.rA t.R.length t.rc, .slice t.wA t.W.length t.wc, .int .i64 t.i, .int .i64 t.fr] from (K9.out.drew).grown hb (by intro e; injection e with e; have := HLT.out; omega)))
  refine wp_region_held_drew (S := fun W => W.cell? ⟨r, 4, none⟩ = some (.slice (some ⟨a.gT, 0, none⟩) n a.cT) ∧ W.cell? ⟨gx, 0, none⟩ = some (.int .i64 t.st) ∧ W.cell? ⟨gx, 1, none⟩ = some (.int .i64 t.tx) ∧ W.cell? ⟨gx, 2, none⟩ = some (.int .i64 t.try_) ∧ W.cell? ⟨gx, 3, none⟩ = some (.int .i64 ((pc : Int) + 1)) ∧ W.cell? ⟨gx, 4, none⟩ = some (.int .i64 t.rv) ∧ W.cell? ⟨gx, 5, none⟩ = some (.int .i64 t.wv) ∧ W.cell? ⟨gx, 6, none⟩ = some (.int .i64 nv) ∧ W.cell? ⟨gx, 7, none⟩ = some (.slice t.rA t.R.length t.rc) ∧ W.cell? ⟨gx, 8, none⟩ = some (.slice t.wA t.W.length t.wc) ∧ W.cell? ⟨gx, 9, none⟩ = some (.int .i64 t.i) ∧ W.cell? ⟨gx, 10, none⟩ = some (.int .i64 t.fr)) (by kernel_rfl) ?_ (fun hgr => ?_)
  · exact ⟨r4, y0, y1, y2, y3, y4, y5, y6, y7, y8, y9, y10⟩
  refine tkA 0 ?_
  refine tkA 1 ?_
  refine tkA 2 ?_
  refine tkA 3 ?_
  refine tkA 4 ?_
  refine tkA 5 ?_
  refine tkA 6 ?_
  refine stA 7 (fun K hK => ?_)
  refine step_rstore_tx (H9.out.keep (Below.refl _ _).drew) HK.out { t with sum := nv, pc := (pc : Int) + 1 } ?hpr _ _ (by rfl) rfl rfl (by rfl) ?_
  case hpr => exact ⟨own_below R9.out.1 (Below.refl _ _).drew, own_below R9.out.2 (Below.refl _ _).drew⟩
  intro w2 hR2 hg2
  have HR2 := Lib.hid hR2
  have HF2 := Lib.hid (HFR.out _ hg2)
  clear hR2 hg2
  refine hK.out _ _ ?_ (fun hgr7 => ?_)
  · exact ⟨by rw [HN.out]; have := HR2.out.rcells 4; simpa [memCells] using this, by rw [HF2.out.cell]; rfl, by rw [HF2.out.cell]; rfl, by rw [HF2.out.cell]; rfl, by rw [HF2.out.cell]; rfl, by rw [HF2.out.cell]; rfl, by rw [HF2.out.cell]; rfl, by rw [HF2.out.cell]; rfl, by rw [HF2.out.cell]; rfl, by rw [HF2.out.cell]; rfl, by rw [HF2.out.cell]; rfl, by rw [HF2.out.cell]; rfl⟩
  clear hK K hgr
  try simp only [Act.put, List.setIfInBounds_toArray, List.set_cons_zero, List.set_cons_succ]
  refine wpAnyH_done (by kernel_rfl) ?_ _
  go_wp2
  first | go_end0 | refine bodyPost_ret (results_none rfl _ _ _) rfl ?_
  rw [HSP.out]
  refine ⟨rfl, _, _, HR2.out, ?_⟩
  rw [er_set, er_set, HPC.out, ← HNV.out, HSM.out, HPV.out]
  try rfl

set_option maxHeartbeats 16000000 in
theorem rwork_mem {words : Nat} {txs : List (List Ac)} {pl : List (List (List Ac))} {k : Nat} {t : Tx} (h : RefW w0 w r a m) (hk : m.T[k]? = some t) (hg : Good words pl m) (gt : GoodT words txs t) (hH : m.H.length ≤ 1000) (htx : 0 ≤ t.tx ∧ t.tx ≤ 1000) (av : Value) (l : List Ac) (hl : AcV w av l) (hll : l.length ≤ 1000) (x : Ac) (hx : l[t.pc.toNat]? = some x) (hd : x.d = 0) (hf : ∀ p ∈ t.W, p.at_ ≠ x.at_) (hse : seesL m.now m.mx m.L x.at_ t.rv (k : Int) = true) (b : Nat) (hb : x.at_ = (b : Int)) (hbW : b < m.W.length) :
    Calls Try.prog 50 #[.pointer (some ⟨r, 0, none⟩), .int .i64 (k : Int), av] w (RefP w0 r (workM l m k t)) := by
  have HSP := Lib.hid (show workM l m k t = { m with T := m.T.set k { t with R := t.R ++ [⟨(b : Int), m.W.getD b 0⟩], sum := IntKind.i64.wrap (t.sum + m.W.getD b 0), pc := t.pc + 1 } } from by unfold workM; rw [hx]; simp only; unfold actM; rw [if_neg (by omega), if_neg (by omega)]; have : getP m k t x.at_ = some (m.W.getD b 0, t.R ++ [⟨(b : Int), m.W.getD b 0⟩]) := (by unfold getP; rw [getP_miss (m := m) (k := k) hf]; simp only; rw [if_pos hse, hb, Int.toNat_natCast]); rw [this])
  have hpl := (List.getElem?_eq_some_iff.1 hx).1
  obtain ⟨pc, hpc⟩ : ∃ z : Nat, t.pc = (z : Int) := ⟨t.pc.toNat, by have := gt.c0; omega⟩
  rw [hpc, Int.toNat_natCast] at hx hpl
  have HPC := Lib.hid hpc
  obtain ⟨nl, hnl⟩ : ∃ z, z = l.length := ⟨_, rfl⟩
  obtain ⟨Al, cl, rfl, _, hcm⟩ := Sl.form hl
  obtain ⟨bl, ol, rfl, hbl, hcl⟩ := Sl.pos encAc encAc_len hl (by omega)
  have hxw := (List.getElem?_eq_some_iff.1 hx).2
  have hnl9 : nl ≤ 9223372036854775807 := by obtain ⟨_, _, _, h6, h7⟩ := Sl.form hl; unfold maxLen at h7; omega
  obtain ⟨xd, hxd⟩ : ∃ z, z = x.d := ⟨_, rfl⟩
  obtain ⟨xa, hxa⟩ : ∃ z, z = x.at_ := ⟨_, rfl⟩
  obtain ⟨xv, hxv⟩ : ∃ z, z = x.v := ⟨_, rfl⟩
  have HXD := Lib.hid hxd
  have HXA := Lib.hid hxa
  have HXV := Lib.hid hxv
  have HCL := Lib.hid (fun W (hb : Below w.heap.size w W) => (show W.cell? ⟨bl, ol + pc * 3, none⟩ = some (.int .i64 xd) ∧ W.cell? ⟨bl, ol + pc * 3 + 1, none⟩ = some (.int .i64 xa) ∧ W.cell? ⟨bl, ol + pc * 3 + 2, none⟩ = some (.int .i64 xv) from
    ⟨by have := hcl W hb pc hpl 0 _ rfl; rw [hxw, ← hxd] at this; simpa using this, by have := hcl W hb pc hpl 1 _ rfl; rw [hxw, ← hxa] at this; exact this, by have := hcl W hb pc hpl 2 _ rfl; rw [hxw, ← hxv] at this; exact this⟩))
  have hp0 : (0 : Int) ≤ (pc : Int) := by omega
  have hp1 : (pc : Int) < (nl : Int) := by omega
  have hp2 : ¬ (nl : Int) ≤ (pc : Int) := by omega
  rw [← hnl]
  have hd' : xd = 0 := by rw [hxd]; exact hd
  obtain ⟨sm, hsm⟩ : ∃ z, z = t.sum := ⟨_, rfl⟩
  have HSM := Lib.hid hsm
  have hxb : xa = (b : Int) := by rw [hxa]; exact hb
  obtain ⟨nW, hnW⟩ : ∃ z, z = m.W.length := ⟨_, rfl⟩
  have HNB := Lib.hid hnW
  have hb0 : (0 : Int) ≤ (b : Int) := by omega
  have hb1 : (b : Int) < (nW : Int) := by omega
  obtain ⟨bv, hbv⟩ : ∃ z, m.W[b]? = some z := ⟨_, List.getElem?_eq_getElem hbW⟩
  have HBV := Lib.hid hbv
  have HGD := Lib.hid (show m.W.getD b 0 = bv from by rw [List.getD_eq_getElem?_getD, hbv]; rfl)
  have HSB := Lib.hid (show seesL m.now m.mx m.L xa t.rv (k : Int) = true from by rw [hxa]; exact hse)
  have hf' : ∀ p ∈ t.W, p.at_ ≠ xa := by rw [hxa]; exact hf
  have HRL := Lib.hid (show t.R.length ≤ 1000 from by have h1 := gt.rl; have h2 := gt.c1; omega)
  obtain ⟨nv, hnv⟩ : ∃ z, IntKind.i64.wrap (sm + bv) = z := ⟨_, rfl⟩
  have HNV := Lib.hid hnv
  subst hxb
  have HFI := Lib.hid (fun W (hb : Below w.heap.size w W) => (show Calls Try.prog 73 #[.slice t.wA t.W.length t.wc, .int .i64 (b : Int)] W fun e w' => e = .returned (.int .i64 (-1)) ∧ Below W.heap.size W w' from by
    have h1 := rfind_any (.slice t.wA t.W.length t.wc) t.W (b : Int) W (Sl.of_own ((h.keep hb).ts hk).2)
    rw [rfind_none hf'] at h1
    exact h1))
  have b1 : (xd == 1) = false := by rw [hd']; rfl
  have b2 : (xd == 2) = false := by rw [hd']; rfl
  have b0 : (xd == 0) = true := by rw [hd']; rfl
  have HMAY := Lib.hid hg.may
  have HWN := Lib.hid (show m.W.length = words from hg.W)
  clear hd hd' hx hxw hcl hbl hg gt hl hpl hpc hnl hxd hxa hxv hcm hsm hf hf' hse hb hbW hnW hbv

  have hkl := (List.getElem?_eq_some_iff.1 hk).1
  obtain ⟨n, hn⟩ : ∃ n, n = m.T.length := ⟨_, rfl⟩
  have hk0 : (0 : Int) ≤ (k : Int) := by omega
  have hk1 : (k : Int) < (n : Int) := by omega
  have r4 : w.cell? ⟨r, 4, none⟩ = some (.slice (some ⟨a.gT, 0, none⟩) n a.cT) := by rw [hn]; exact h.rcells 4
  have t0_ := h.tcells hk (j := 0) rfl
  have t1_ := h.tcells hk (j := 1) rfl
  have t2_ := h.tcells hk (j := 2) rfl
  have t3_ := h.tcells hk (j := 3) rfl
  have t4_ := h.tcells hk (j := 4) rfl
  have t5_ := h.tcells hk (j := 5) rfl
  have t6_ := h.tcells hk (j := 6) rfl
  have t7_ := h.tcells hk (j := 7) rfl
  have t8_ := h.tcells hk (j := 8) rfl
  have t9_ := h.tcells hk (j := 9) rfl
  have t10_ := h.tcells hk (j := 10) rfl
  simp only [Nat.add_zero] at t0_
  have hap := h.apart
  have HAP := Lib.hid hap
  have HH := Lib.hid h
  have HK := Lib.hid hk
  have HN := Lib.hid hn
  have kX := Blk.new_ w 46 #[.int .i64 t.st, .int .i64 t.tx, .int .i64 t.try_, .int .i64 t.pc, .int .i64 t.rv, .int .i64 t.wv, .int .i64 t.sum, .slice t.rA t.R.length t.rc, .slice t.wA t.W.length t.wc, .int .i64 t.i, .int .i64 t.fr] _ rfl
  have hbX := Below.alloc (Below.refl w.heap.size w) (Nat.le_refl _) (.cells #[.int .i64 t.st, .int .i64 t.tx, .int .i64 t.try_, .int .i64 t.pc, .int .i64 t.rv, .int .i64 t.wv, .int .i64 t.sum, .slice t.rA t.R.length t.rc, .slice t.wA t.W.length t.wc, .int .i64 t.i, .int .i64 t.fr] 46)
  obtain ⟨wx, hwx⟩ : ∃ z, w.alloc (.cells #[.int .i64 t.st, .int .i64 t.tx, .int .i64 t.try_, .int .i64 t.pc, .int .i64 t.rv, .int .i64 t.wv, .int .i64 t.sum, .slice t.rA t.R.length t.rc, .slice t.wA t.W.length t.wc, .int .i64 t.i, .int .i64 t.fr] 46) = z := ⟨_, rfl⟩
  rw [hwx] at kX hbX
  have HX := Lib.hid (h.keep hbX)
  have HWX := Lib.hid hwx
  have HBX := Lib.hid hbX
  obtain ⟨gx, hgx⟩ : ∃ z, w.heap.size = z := ⟨_, rfl⟩
  rw [hgx] at kX
  have HGX := Lib.hid hgx
  have HKX := Lib.hid kX
  clear kX hbX hwx hgx hap h hk hn hkl
  go_enter Try.func50, Try.ntmps50
  go_upto_region 1 with fail
  rw [HWX.out, HGX.out]
  clear r4 t0_ t1_ t2_ t3_ t4_ t5_ t6_ t7_ t8_ t9_ t10_
  have HLT := Lib.hid (show a.gT < gx from by have h1 := HAP.out.2.2.2.1; have h2 := HGX.out; omega)
  have HGE := Lib.hid (show w0.heap.size ≤ gx from by have h1 := HH.out.base.size; have h2 := HGX.out; omega)
  have x3 : wx.cell? ⟨gx, 3, none⟩ = some (.int .i64 (pc : Int)) := by rw [HKX.out.cell, ← HPC.out]; rfl
  obtain ⟨c0, c1, c2⟩ := HCL.out _ HBX.out
  have kY := Blk.new_ wx 53 #[.int .i64 xd, .int .i64 (b : Int), .int .i64 xv] _ rfl
  have hbY := Below.alloc (Below.refl wx.heap.size wx) (Nat.le_refl _) (.cells #[.int .i64 xd, .int .i64 (b : Int), .int .i64 xv] 53)
  obtain ⟨wy, hwy⟩ : ∃ z, wx.alloc (.cells #[.int .i64 xd, .int .i64 (b : Int), .int .i64 xv] 53) = z := ⟨_, rfl⟩
  rw [hwy] at kY hbY
  have HY := Lib.hid (HX.out.keep hbY)
  have HKXY := Lib.hid (HKX.out.keep hbY)
  have HWY := Lib.hid hwy
  have HBY := Lib.hid hbY
  have hxl := HKX.out.lt
  obtain ⟨ga, hga⟩ : ∃ z, wx.heap.size = z := ⟨_, rfl⟩
  have HGT := Lib.hid (show gx < ga from by omega)
  rw [hga] at kY
  have HGA := Lib.hid hga
  have HKY := Lib.hid kY
  clear kY hbY hwy hga hxl
  go_upto_region 7 with fail
  rw [HWY.out, HGA.out]
  clear x3 c0 c1 c2
  have y0 : wy.cell? ⟨ga, 0, none⟩ = some (.int .i64 xd) := by rw [HKY.out.cell]; rfl
  have y1 : wy.cell? ⟨ga, 1, none⟩ = some (.int .i64 (b : Int)) := by rw [HKY.out.cell]; rfl
  have y2 : wy.cell? ⟨ga, 2, none⟩ = some (.int .i64 xv) := by rw [HKY.out.cell]; rfl
  have x8 : wy.cell? ⟨gx, 8, none⟩ = some (.slice t.wA t.W.length t.wc) := by rw [HKXY.out.cell]; rfl
  have HBY2 := Lib.hid (HBX.out.trans (HBY.out.mono HBX.out.size))
  go_wp2_with fail
  refine (HFI.out _ HBY2.out).mono ?_
  rintro e w1 ⟨rfl, hb1⟩
  have H1 := Lib.hid (HY.out.keep hb1)
  have K1 := Lib.hid (HKXY.out.keep hb1)
  have KA1 := Lib.hid (HKY.out.keep hb1)
  have HB1 := Lib.hid (HBY2.out.trans (hb1.mono HBY2.out.size))
  clear x8 y0 y1 y2 hb1
  have HC := Lib.hid (fun W (hb : Below w1.heap.size w1 W) => (show W.cell? ⟨r, 1, none⟩ = some (.int .i64 m.now) ∧ W.cell? ⟨r, 2, none⟩ = some (.int .i64 m.mx) ∧ W.cell? ⟨r, 3, none⟩ = some (.slice a.lA m.L.length a.lc) ∧ W.cell? ⟨ga, 1, none⟩ = some (.int .i64 (b : Int)) ∧ W.cell? ⟨gx, 4, none⟩ = some (.int .i64 t.rv) from ⟨(H1.out.keep hb).rcells 1, (H1.out.keep hb).rcells 2, (H1.out.keep hb).rcells 3, by rw [(KA1.out.keep hb).cell]; rfl, by rw [(K1.out.keep hb).cell]; rfl⟩))
  have HSE := Lib.hid (fun W (hb : Below w1.heap.size w1 W) => RSees_any (.agg #[.int .i64 m.now, .int .i64 m.mx, .slice a.lA m.L.length a.lc]) m.now m.mx (b : Int) t.rv (k : Int) m.L W ((H1.out.keep hb).lk.to))
  rw [HSB.out] at HSE
  go_upto_region 13 with fail
  refine wp_region_held_drew (S := fun W => W.cell? ⟨r, 1, none⟩ = some (.int .i64 m.now) ∧ W.cell? ⟨r, 2, none⟩ = some (.int .i64 m.mx) ∧ W.cell? ⟨r, 3, none⟩ = some (.slice a.lA m.L.length a.lc) ∧ W.cell? ⟨ga, 1, none⟩ = some (.int .i64 (b : Int)) ∧ W.cell? ⟨gx, 4, none⟩ = some (.int .i64 t.rv)) (by kernel_rfl) ?_ (fun hhr => ?_)
  · exact HC.out _ (Below.refl _ _).drew
  refine tkA 0 ?_
  refine tkA 1 ?_
  refine tkA 2 ?_
  refine tkA 3 ?_
  refine tkA 4 ?_
  refine tkA 5 ?_
  refine tkA 6 ?_
  refine tkA 7 ?_
  refine tkA 8 ?_
  refine stA 9 (fun K hK => ?_)
  go_simp
  refine (HSE.out _ (Below.refl _ _).drew).mono ?_
  rintro e w3 ⟨rfl, hb3⟩
  have HB3 := Lib.hid (show Below w1.heap.size w1 w3 from (Below.refl _ _).drew.trans hb3)
  clear hb3
  try go_wp2_with fail
  refine hK.out _ _ ?_ (fun hhr9 => ?_)
  · exact HC.out _ HB3.out
  clear hK K hhr
  try simp only [Act.put, List.setIfInBounds_toArray, List.set_cons_zero, List.set_cons_succ]
  refine stA 10 (fun K hK => ?_)
  go_simp
  refine hK.out _ _ ?_ (fun hhr10 => ?_)
  · exact HC.out _ HB3.out
  clear hK K hhr9
  try simp only [Act.put, List.setIfInBounds_toArray, List.set_cons_zero, List.set_cons_succ]
  refine wpAnyH_done (by kernel_rfl) ?_ _
  have H3 := Lib.hid (H1.out.keep HB3.out)
  have K3 := Lib.hid (K1.out.keep HB3.out)
  have KA3 := Lib.hid (KA1.out.keep HB3.out)
  have HBB3 := Lib.hid (HB1.out.trans (HB3.out.mono HB1.out.size))

  clear hH htx
  have hk9 : ¬ (0 : Int) ≤ -1 := by omega
  have S3 := Lib.hid (fun W (hb : Below w3.heap.size w3 W) => (show W.cell? ⟨r, 0, none⟩ = some (.slice (some ⟨a.gW, 0, none⟩) nW a.cW) ∧ W.cell? ⟨ga, 1, none⟩ = some (.int .i64 (b : Int)) ∧ W.cell? ⟨a.gW, b, none⟩ = some (.int .i64 bv) from ⟨by rw [HNB.out]; exact (H3.out.keep hb).rcells 0, by rw [(KA3.out.keep hb).cell]; rfl, (H3.out.keep hb).wcell HBV.out⟩))
  go_upto_region 18 with fail
  obtain ⟨z0, z1, zb⟩ := S3.out _ (Below.refl _ _).drew
  have q6 : w3.cell? ⟨gx, 6, none⟩ = some (.int .i64 sm) := by rw [K3.out.cell, HSM.out]; rfl
  have qf := K3.out.free
  have ql := K3.out.lt
  have n1 : ¬ gx = r := by intro e; have h1 := H3.out.run; rw [← e] at h1; exact absurd (blk_ne K3.out h1) (by decide)
  have n2 : ¬ gx = ga := by have := HGT.out; omega
  have n3 : ¬ gx = a.gW := by have h1 := HAP.out.2.2.2.2.1; have h2 := HGX.out; omega
  refine wp_region_held_drew (S := fun W => W.cell? ⟨r, 0, none⟩ = some (.slice (some ⟨a.gW, 0, none⟩) nW a.cW) ∧ W.cell? ⟨ga, 1, none⟩ = some (.int .i64 (b : Int)) ∧ W.cell? ⟨a.gW, b, none⟩ = some (.int .i64 bv)) (by kernel_rfl) ?_ (fun hir => ?_)
  · exact ⟨z0, z1, zb⟩
  refine tkA 0 ?_
  refine tkA 2 ?_
  refine tkA 3 ?_
  refine tkA 4 ?_
  refine tkA 5 ?_
  refine tkA 6 ?_
  refine tkA 7 ?_
  refine tkA 8 ?_
  refine tkA 9 ?_
  refine stA 1 (fun K hK => ?_)
  go_simp
  refine hK.out _ _ ?_ (fun hir1b10 => ?_)
  · exact ⟨z0, z1, zb⟩
  clear hK K hir
  try simp only [Act.put, List.setIfInBounds_toArray, List.set_cons_zero, List.set_cons_succ]
  refine tkA 10 ?_
  refine tkA 11 ?_
  refine stA 12 (fun K hK => ?_)
  go_simp
  refine hK.out _ _ ?_ (fun hir12b13 => ?_)
  · exact ⟨by go_simp <;> exact z0, by go_simp <;> exact z1, by go_simp <;> exact zb⟩
  clear hK K hir1b10
  try simp only [Act.put, List.setIfInBounds_toArray, List.set_cons_zero, List.set_cons_succ]
  refine wpAnyH_done (by kernel_rfl) ?_ _
  skip
  have H4 := Lib.hid ((H3.out.tbox K3.out (grown_setCell w3 ⟨gx, 6, none⟩ (.int .i64 nv)) (by have := HLT.out; show ¬ a.gT = gx; omega) HGE.out).keep (Below.refl _ _).drew)
  have K4 := Lib.hid ((K3.out.set_ 6 (.int .i64 nv)).drew)
  have KA4 := Lib.hid ((KA3.out.far (p := ⟨gx, 6, none⟩) (fun e => n2 e.symm) (.int .i64 nv)).drew)
  go_upto_region 19 with fail
  obtain ⟨w4, hw4⟩ : ∃ z, (w3.setCell ⟨gx, 6, none⟩ (.int .i64 nv)).drew = z := ⟨_, rfl⟩
  rw [hw4] at H4 K4 KA4 ⊢
  clear hw4 z0 z1 zb q6 qf ql hnv
  have S4 := Lib.hid (fun W (hb : Below w4.heap.size w4 W) => (show W.cell? ⟨r, 0, none⟩ = some (.slice (some ⟨a.gW, 0, none⟩) nW a.cW) ∧ W.cell? ⟨ga, 1, none⟩ = some (.int .i64 (b : Int)) ∧ W.cell? ⟨a.gW, b, none⟩ = some (.int .i64 bv) from ⟨by rw [HNB.out]; exact (H4.out.keep hb).rcells 0, by rw [(KA4.out.keep hb).cell]; rfl, (H4.out.keep hb).wcell HBV.out⟩))
  obtain ⟨i0, hi0, hz0, hz1, hz2⟩ := info_parts clone_pair_info
  have HSR := Lib.hid (fun W (hb : Below w4.heap.size w4 W) => Sl.of_own ((H4.out.keep hb).ts HK.out).1)
  obtain ⟨nr, hnr⟩ : ∃ z, z = t.R.length := ⟨_, rfl⟩
  have HNR := Lib.hid hnr
  rw [← hnr] at HSR HRL
  have hnr9 := HRL.out
  clear hnr
  go_cut [140] (fun s140 wq => ∃ A2 c2, s140 = .pointer (some ⟨gx, 7, none⟩) ∧ Hid (RefW w0 wq r a m ∧ Blk wq gx 46 #[.int .i64 t.st, .int .i64 t.tx, .int .i64 t.try_, .int .i64 t.pc, .int .i64 t.rv, .int .i64 t.wv, .int .i64 nv, .slice A2 (nr + 1) c2, .slice t.wA t.W.length t.wc, .int .i64 t.i, .int .i64 t.fr] ∧ wq.ownsRow w0.heap.size 55 2 (.slice A2 (nr + 1) c2) (nr + 1) (t.R.flatMap encPr ++ [.int .i64 (b : Int), .int .i64 bv])))
  case first =>
    have hBB : Below w4.heap.size w4 w4.drew := (Below.refl _ _).drew
    have x7 : w4.cell? ⟨gx, 7, none⟩ = some (.slice t.rA nr t.rc) := by rw [K4.out.cell, HNR.out]; rfl
    have kX := K4.out.drew
    obtain ⟨wz, hwz⟩ : ∃ z, w4.drew = z := ⟨_, rfl⟩
    rw [hwz] at hBB kX
    have x7 : wz.cell? ⟨gx, 7, none⟩ = some (.slice t.rA nr t.rc) := hwz ▸ x7
    have HWZ := Lib.hid hwz
    clear hwz
    refine wp_region_held_drew (S := fun W => W.cell? ⟨r, 0, none⟩ = some (.slice (some ⟨a.gW, 0, none⟩) nW a.cW) ∧ W.cell? ⟨ga, 1, none⟩ = some (.int .i64 (b : Int)) ∧ W.cell? ⟨a.gW, b, none⟩ = some (.int .i64 bv)) (by kernel_rfl) ?_ (fun hjr => ?_)
    · exact S4.out _ (Below.refl _ _).drew
    refine tkA 0 ?_
    refine tkA 3 ?_
    refine tkA 4 ?_
    refine tkA 5 ?_
    refine tkA 6 ?_
    refine tkA 7 ?_
    refine tkA 8 ?_
    refine tkA 9 ?_
    refine tkA 10 ?_
    refine tkA 11 ?_
    refine tkA 12 ?_
    refine tkA 13 ?_
    refine wpAnyH_ready (rs := [1, 14]) (by kernel_rfl) (by simp) ?_
    refine conA (fun K hK => ?_) ?_
    · (try rw [HWZ.out])
      go_simp
      refine hK.out _ _ ?_ (fun hjr1b13 => ?_)
      · exact S4.out _ hBB
      clear hK K hjr
      try simp only [Act.put, List.setIfInBounds_toArray, List.set_cons_zero, List.set_cons_succ]
      refine wpAnyH_ready (rs := [2, 14]) (by kernel_rfl) (by simp) ?_
      refine conA (fun K hK => ?_) ?_
      · (try rw [HWZ.out])
        refine step_append_sl rfl (.const (.slice none 0 0)) (.tmp 125) _ rfl w4.heap.size 55 i0 _ 2 16 Try.underlying44 hi0 hz0 hz1 hz2 rfl (by omega) (.slice none 0 0) 0 [] rfl (World.ownsRow_nil _ _ _ _) (.slice t.rA nr t.rc) nr _ rfl (HSR.out _ hBB) (encPr_one _) (by unfold maxLen; omega) (by omega) hBB.size ?_
        rintro v1 wz hV1 hgz -
        have hb := below_grown_none hgz
        simp only [Nat.zero_add, List.nil_append] at hV1
        (try replace hU := hU.below hb)
        replace x7 := (hb.cell (p := ⟨gx, 7, none⟩) kX.lt).trans x7
        replace kX := kX.keep hb
        replace hBB := hBB.trans (hb.mono hBB.size)
        clear hgz hb
        refine hK.out _ _ ?_ (fun hjr2b14 => ?_)
        · exact S4.out _ hBB
        clear hK K hjr1b13
        try simp only [Act.put, List.setIfInBounds_toArray, List.set_cons_zero, List.set_cons_succ]
        refine stA 14 (fun K hK => ?_)
        (try rw [HWZ.out])
        go_simp
        have hb := Below.alloc (Below.refl wz.heap.size wz) (Nat.le_refl _) (.cells #[.int .i64 (b : Int), .int .i64 bv] 55)
        have hU0 := Blk.new wz 55 #[.int .i64 (b : Int), .int .i64 bv]
        obtain ⟨gu, hgu⟩ : ∃ g, wz.heap.size = g := ⟨_, rfl⟩
        obtain ⟨wz, hwy⟩ : ∃ z, wz.alloc (.cells #[.int .i64 (b : Int), .int .i64 bv] 55) = z := ⟨_, rfl⟩
        rw [hwy] at hb hU0 ⊢
        rw [hgu] at hU0 ⊢
        (try replace hV1 := own_below hV1 hb)
        replace x7 := (hb.cell (p := ⟨gx, 7, none⟩) kX.lt).trans x7
        replace kX := kX.keep hb
        replace hBB := hBB.trans (hb.mono hBB.size)
        have hU := slP_one hU0
        clear hb hU0 hgu hwy
        refine hK.out _ _ ?_ (fun hjr14b15 => ?_)
        · exact S4.out _ hBB
        clear hK K hjr2b14
        try simp only [Act.put, List.setIfInBounds_toArray, List.set_cons_zero, List.set_cons_succ]
        refine stA 15 (fun K hK => ?_)
        refine step_append_sl rfl (.tmp 126) (.tmp 138) _ rfl w4.heap.size 55 i0 _ 2 16 Try.underlying44 hi0 hz0 hz1 hz2 rfl (by omega) _ nr _ rfl hV1 _ 1 _ rfl hU (by simp [Value.oneCell']) (by unfold maxLen; omega) (by omega) hBB.size ?_
        rintro v2 wz hV2 hgz -
        have hb := below_own hV1 hgz (Nat.le_refl _) hBB.size
        replace kX := kX.grown hgz (fun e => own_ne hV1 kX (by decide) e.symm)
        replace hBB := hBB.trans hb
        obtain ⟨A2, c2, rfl, _, _⟩ := (Sl.of_own hV2).form
        have x7 : wz.cell? ⟨gx, 7, none⟩ = some (.slice t.rA t.R.length t.rc) := by (rw [kX.cell]; rfl)
        have qf := kX.free
        have ql := kX.lt
        clear hgz hb hU hV1
        refine hK.out _ _ ?_ (fun hjr15b16 => ?_)
        · exact S4.out _ hBB
        clear hK K hjr14b15
        try simp only [Act.put, List.setIfInBounds_toArray, List.set_cons_zero, List.set_cons_succ]
        refine tkA 16 ?_
        refine stA 17 (fun K hK => ?_)
        go_simp
        refine hK.out _ _ ?_ (fun hjr17b18 => ?_)
        · (obtain ⟨z0, z1, zb⟩ := S4.out _ hBB; exact ⟨by go_simp <;> exact z0, by go_simp <;> exact z1, by go_simp <;> exact zb⟩)
        clear hK K hjr15b16
        try simp only [Act.put, List.setIfInBounds_toArray, List.set_cons_zero, List.set_cons_succ]
        refine wpAnyH_done (by kernel_rfl) ?_ _
        go_wp2_with fail
        go_meet
        exact ⟨A2, c2, rfl, (show Hid _ from ⟨(H4.out.keep hBB).tbox kX (grown_setCell _ ⟨gx, 7, none⟩ _) (by have := HLT.out; show ¬ a.gT = gx; omega) HGE.out, kX.set_ 7 _, own_ty (ownsRow_mono hV2 H4.out.base.size) (grown_setCell _ ⟨gx, 7, none⟩ _) kX (by decide)⟩)⟩
      refine conA (fun K hK => ?_) ?_
      · (try rw [HWZ.out])
        go_simp
        have hb := Below.alloc (Below.refl wz.heap.size wz) (Nat.le_refl _) (.cells #[.int .i64 (b : Int), .int .i64 bv] 55)
        have hU0 := Blk.new wz 55 #[.int .i64 (b : Int), .int .i64 bv]
        obtain ⟨gu, hgu⟩ : ∃ g, wz.heap.size = g := ⟨_, rfl⟩
        obtain ⟨wz, hwy⟩ : ∃ z, wz.alloc (.cells #[.int .i64 (b : Int), .int .i64 bv] 55) = z := ⟨_, rfl⟩
        rw [hwy] at hb hU0 ⊢
        rw [hgu] at hU0 ⊢
        (try replace hV1 := own_below hV1 hb)
        replace x7 := (hb.cell (p := ⟨gx, 7, none⟩) kX.lt).trans x7
        replace kX := kX.keep hb
        replace hBB := hBB.trans (hb.mono hBB.size)
        have hU := slP_one hU0
        clear hb hU0 hgu hwy
        refine hK.out _ _ ?_ (fun hjr14b19 => ?_)
        · exact S4.out _ hBB
        clear hK K hjr1b13
        try simp only [Act.put, List.setIfInBounds_toArray, List.set_cons_zero, List.set_cons_succ]
        refine stA 2 (fun K hK => ?_)
        (try rw [HWZ.out])
        refine step_append_sl rfl (.const (.slice none 0 0)) (.tmp 125) _ rfl w4.heap.size 55 i0 _ 2 16 Try.underlying44 hi0 hz0 hz1 hz2 rfl (by omega) (.slice none 0 0) 0 [] rfl (World.ownsRow_nil _ _ _ _) (.slice t.rA nr t.rc) nr _ rfl (HSR.out _ hBB) (encPr_one _) (by unfold maxLen; omega) (by omega) hBB.size ?_
        rintro v1 wz hV1 hgz -
        have hb := below_grown_none hgz
        simp only [Nat.zero_add, List.nil_append] at hV1
        (try replace hU := hU.below hb)
        replace x7 := (hb.cell (p := ⟨gx, 7, none⟩) kX.lt).trans x7
        replace kX := kX.keep hb
        replace hBB := hBB.trans (hb.mono hBB.size)
        clear hgz hb
        refine hK.out _ _ ?_ (fun hjr2b20 => ?_)
        · exact S4.out _ hBB
        clear hK K hjr14b19
        try simp only [Act.put, List.setIfInBounds_toArray, List.set_cons_zero, List.set_cons_succ]
        refine stA 15 (fun K hK => ?_)
        refine step_append_sl rfl (.tmp 126) (.tmp 138) _ rfl w4.heap.size 55 i0 _ 2 16 Try.underlying44 hi0 hz0 hz1 hz2 rfl (by omega) _ nr _ rfl hV1 _ 1 _ rfl hU (by simp [Value.oneCell']) (by unfold maxLen; omega) (by omega) hBB.size ?_
        rintro v2 wz hV2 hgz -
        have hb := below_own hV1 hgz (Nat.le_refl _) hBB.size
        replace kX := kX.grown hgz (fun e => own_ne hV1 kX (by decide) e.symm)
        replace hBB := hBB.trans hb
        obtain ⟨A2, c2, rfl, _, _⟩ := (Sl.of_own hV2).form
        have x7 : wz.cell? ⟨gx, 7, none⟩ = some (.slice t.rA t.R.length t.rc) := by (rw [kX.cell]; rfl)
        have qf := kX.free
        have ql := kX.lt
        clear hgz hb hU hV1
        refine hK.out _ _ ?_ (fun hjr15b21 => ?_)
        · exact S4.out _ hBB
        clear hK K hjr2b20
        try simp only [Act.put, List.setIfInBounds_toArray, List.set_cons_zero, List.set_cons_succ]
        refine tkA 16 ?_
        refine stA 17 (fun K hK => ?_)
        go_simp
        refine hK.out _ _ ?_ (fun hjr17b23 => ?_)
        · (obtain ⟨z0, z1, zb⟩ := S4.out _ hBB; exact ⟨by go_simp <;> exact z0, by go_simp <;> exact z1, by go_simp <;> exact zb⟩)
        clear hK K hjr15b21
        try simp only [Act.put, List.setIfInBounds_toArray, List.set_cons_zero, List.set_cons_succ]
        refine wpAnyH_done (by kernel_rfl) ?_ _
        go_wp2_with fail
        go_meet
        exact ⟨A2, c2, rfl, (show Hid _ from ⟨(H4.out.keep hBB).tbox kX (grown_setCell _ ⟨gx, 7, none⟩ _) (by have := HLT.out; show ¬ a.gT = gx; omega) HGE.out, kX.set_ 7 _, own_ty (ownsRow_mono hV2 H4.out.base.size) (grown_setCell _ ⟨gx, 7, none⟩ _) kX (by decide)⟩)⟩
      exact AllReadyH.nil
    refine conA (fun K hK => ?_) ?_
    · (try rw [HWZ.out])
      go_simp
      have hb := Below.alloc (Below.refl wz.heap.size wz) (Nat.le_refl _) (.cells #[.int .i64 (b : Int), .int .i64 bv] 55)
      have hU0 := Blk.new wz 55 #[.int .i64 (b : Int), .int .i64 bv]
      obtain ⟨gu, hgu⟩ : ∃ g, wz.heap.size = g := ⟨_, rfl⟩
      obtain ⟨wz, hwy⟩ : ∃ z, wz.alloc (.cells #[.int .i64 (b : Int), .int .i64 bv] 55) = z := ⟨_, rfl⟩
      rw [hwy] at hb hU0 ⊢
      rw [hgu] at hU0 ⊢
      (try replace hV1 := own_below hV1 hb)
      replace x7 := (hb.cell (p := ⟨gx, 7, none⟩) kX.lt).trans x7
      replace kX := kX.keep hb
      replace hBB := hBB.trans (hb.mono hBB.size)
      have hU := slP_one hU0
      clear hb hU0 hgu hwy
      refine hK.out _ _ ?_ (fun hjr14b24 => ?_)
      · exact S4.out _ hBB
      clear hK K hjr
      try simp only [Act.put, List.setIfInBounds_toArray, List.set_cons_zero, List.set_cons_succ]
      refine stA 1 (fun K hK => ?_)
      (try rw [HWZ.out])
      go_simp
      refine hK.out _ _ ?_ (fun hjr1b25 => ?_)
      · exact S4.out _ hBB
      clear hK K hjr14b24
      try simp only [Act.put, List.setIfInBounds_toArray, List.set_cons_zero, List.set_cons_succ]
      refine stA 2 (fun K hK => ?_)
      (try rw [HWZ.out])
      refine step_append_sl rfl (.const (.slice none 0 0)) (.tmp 125) _ rfl w4.heap.size 55 i0 _ 2 16 Try.underlying44 hi0 hz0 hz1 hz2 rfl (by omega) (.slice none 0 0) 0 [] rfl (World.ownsRow_nil _ _ _ _) (.slice t.rA nr t.rc) nr _ rfl (HSR.out _ hBB) (encPr_one _) (by unfold maxLen; omega) (by omega) hBB.size ?_
      rintro v1 wz hV1 hgz -
      have hb := below_grown_none hgz
      simp only [Nat.zero_add, List.nil_append] at hV1
      (try replace hU := hU.below hb)
      replace x7 := (hb.cell (p := ⟨gx, 7, none⟩) kX.lt).trans x7
      replace kX := kX.keep hb
      replace hBB := hBB.trans (hb.mono hBB.size)
      clear hgz hb
      refine hK.out _ _ ?_ (fun hjr2b26 => ?_)
      · exact S4.out _ hBB
      clear hK K hjr1b25
      try simp only [Act.put, List.setIfInBounds_toArray, List.set_cons_zero, List.set_cons_succ]
      refine stA 15 (fun K hK => ?_)
      refine step_append_sl rfl (.tmp 126) (.tmp 138) _ rfl w4.heap.size 55 i0 _ 2 16 Try.underlying44 hi0 hz0 hz1 hz2 rfl (by omega) _ nr _ rfl hV1 _ 1 _ rfl hU (by simp [Value.oneCell']) (by unfold maxLen; omega) (by omega) hBB.size ?_
      rintro v2 wz hV2 hgz -
      have hb := below_own hV1 hgz (Nat.le_refl _) hBB.size
      replace kX := kX.grown hgz (fun e => own_ne hV1 kX (by decide) e.symm)
      replace hBB := hBB.trans hb
      obtain ⟨A2, c2, rfl, _, _⟩ := (Sl.of_own hV2).form
      have x7 : wz.cell? ⟨gx, 7, none⟩ = some (.slice t.rA t.R.length t.rc) := by (rw [kX.cell]; rfl)
      have qf := kX.free
      have ql := kX.lt
      clear hgz hb hU hV1
      refine hK.out _ _ ?_ (fun hjr15b27 => ?_)
      · exact S4.out _ hBB
      clear hK K hjr2b26
      try simp only [Act.put, List.setIfInBounds_toArray, List.set_cons_zero, List.set_cons_succ]
      refine tkA 16 ?_
      refine stA 17 (fun K hK => ?_)
      go_simp
      refine hK.out _ _ ?_ (fun hjr17b29 => ?_)
      · (obtain ⟨z0, z1, zb⟩ := S4.out _ hBB; exact ⟨by go_simp <;> exact z0, by go_simp <;> exact z1, by go_simp <;> exact zb⟩)
      clear hK K hjr15b27
      try simp only [Act.put, List.setIfInBounds_toArray, List.set_cons_zero, List.set_cons_succ]
      refine wpAnyH_done (by kernel_rfl) ?_ _
      go_wp2_with fail
      go_meet
      exact ⟨A2, c2, rfl, (show Hid _ from ⟨(H4.out.keep hBB).tbox kX (grown_setCell _ ⟨gx, 7, none⟩ _) (by have := HLT.out; show ¬ a.gT = gx; omega) HGE.out, kX.set_ 7 _, own_ty (ownsRow_mono hV2 H4.out.base.size) (grown_setCell _ ⟨gx, 7, none⟩ _) kX (by decide)⟩)⟩
    exact AllReadyH.nil
  case rest =>
    obtain ⟨A2, c2, rfl, HCUT⟩ := hcut
    have H5 := Lib.hid HCUT.out.1
    have K5 := Lib.hid HCUT.out.2.1
    have RP := Lib.hid (show PRow wc w0.heap.size A2 c2 (t.R ++ [⟨(b : Int), bv⟩]) from by
      have h1 := HCUT.out.2.2
      unfold PRow
      rw [List.flatMap_append, List.length_append, ← HNR.out]
      exact h1)
    have RR := Lib.hid (And.intro RP.out (H5.out.ts HK.out).2)
    have HNR1 := Lib.hid (show (t.R ++ [(⟨(b : Int), bv⟩ : Pr)]).length = nr + 1 from by rw [List.length_append, ← HNR.out]; rfl)
    clear HCUT n1 n2 n3 hi0 hz0 hz1 hz2 hnr9
    go_upto_region 20 with fail
    have q3 : wc.cell? ⟨gx, 3, none⟩ = some (.int .i64 (pc : Int)) := by rw [K5.out.cell, ← HPC.out]; rfl
    have qf := K5.out.free
    have ql := K5.out.lt
    have hwr : IntKind.i64.wrap ((pc : Int) + 1) = (pc : Int) + 1 := by rw [IntKind.wrap_i64]; omega
    have H9 := Lib.hid (H5.out.tbox K5.out (grown_setCell wc ⟨gx, 3, none⟩ (.int .i64 ((pc : Int) + 1))) (by have := HLT.out; show ¬ a.gT = gx; omega) HGE.out)
    have K9 := Lib.hid (K5.out.set_ 3 (.int .i64 ((pc : Int) + 1)))
    have R9 := Lib.hid (And.intro (own_ty RR.out.1 (grown_setCell wc ⟨gx, 3, none⟩ (.int .i64 ((pc : Int) + 1))) K5.out (by decide)) (own_ty RR.out.2 (grown_setCell wc ⟨gx, 3, none⟩ (.int .i64 ((pc : Int) + 1))) K5.out (by decide)))
    go_upto_region 21 with fail
    obtain ⟨w9, hw9⟩ : ∃ z, wc.setCell ⟨gx, 3, none⟩ (.int .i64 ((pc : Int) + 1)) = z := ⟨_, rfl⟩
    rw [hw9] at H9 K9 R9 ⊢
    clear hw9 q3 qf ql hwr
    have r4 : w9.cell? ⟨r, 4, none⟩ = some (.slice (some ⟨a.gT, 0, none⟩) n a.cT) := by rw [HN.out]; exact H9.out.rcells 4
    have y0 : w9.cell? ⟨gx, 0, none⟩ = some (.int .i64 t.st) := by rw [K9.out.cell]; rfl
    have y1 : w9.cell? ⟨gx, 1, none⟩ = some (.int .i64 t.tx) := by rw [K9.out.cell]; rfl
    have y2 : w9.cell? ⟨gx, 2, none⟩ = some (.int .i64 t.try_) := by rw [K9.out.cell]; rfl
    have y3 : w9.cell? ⟨gx, 3, none⟩ = some (.int .i64 ((pc : Int) + 1)) := by rw [K9.out.cell]; rfl
    have y4 : w9.cell? ⟨gx, 4, none⟩ = some (.int .i64 t.rv) := by rw [K9.out.cell]; rfl
    have y5 : w9.cell? ⟨gx, 5, none⟩ = some (.int .i64 t.wv) := by rw [K9.out.cell]; rfl
    have y6 : w9.cell? ⟨gx, 6, none⟩ = some (.int .i64 nv) := by rw [K9.out.cell]; rfl
    have y7 : w9.cell? ⟨gx, 7, none⟩ = some (.slice A2 (nr + 1) c2) := by rw [K9.out.cell]; rfl
    have y8 : w9.cell? ⟨gx, 8, none⟩ = some (.slice t.wA t.W.length t.wc) := by rw [K9.out.cell]; rfl
    have y9 : w9.cell? ⟨gx, 9, none⟩ = some (.int .i64 t.i) := by rw [K9.out.cell]; rfl
    have y10 : w9.cell? ⟨gx, 10, none⟩ = some (.int .i64 t.fr) := by rw [K9.out.cell]; rfl
    have HFR := Lib.hid (fun W (hb : w9.drew.grownBy W (some a.gT)) => (show Blk W gx 46 #[.int .i64 t.st, .int .i64 t.tx, .int .i64 t.try_, .int .i64 ((pc : Int) + 1), .int .i64 t.rv, .int .i64 t.wv, .int .i64 nv, .slice A2 (nr + 1) c2, .slice t.wA t.W.length t.wc, .int .i64 t.i, .int .i64 t.fr] from (K9.out.drew).grown hb (by intro e; injection e with e; have := HLT.out; omega)))
    refine wp_region_held_drew (S := fun W => W.cell? ⟨r, 4, none⟩ = some (.slice (some ⟨a.gT, 0, none⟩) n a.cT) ∧ W.cell? ⟨gx, 0, none⟩ = some (.int .i64 t.st) ∧ W.cell? ⟨gx, 1, none⟩ = some (.int .i64 t.tx) ∧ W.cell? ⟨gx, 2, none⟩ = some (.int .i64 t.try_) ∧ W.cell? ⟨gx, 3, none⟩ = some (.int .i64 ((pc : Int) + 1)) ∧ W.cell? ⟨gx, 4, none⟩ = some (.int .i64 t.rv) ∧ W.cell? ⟨gx, 5, none⟩ = some (.int .i64 t.wv) ∧ W.cell? ⟨gx, 6, none⟩ = some (.int .i64 nv) ∧ W.cell? ⟨gx, 7, none⟩ = some (.slice A2 (nr + 1) c2) ∧ W.cell? ⟨gx, 8, none⟩ = some (.slice t.wA t.W.length t.wc) ∧ W.cell? ⟨gx, 9, none⟩ = some (.int .i64 t.i) ∧ W.cell? ⟨gx, 10, none⟩ = some (.int .i64 t.fr)) (by kernel_rfl) ?_ (fun hkr => ?_)
    · exact ⟨r4, y0, y1, y2, y3, y4, y5, y6, y7, y8, y9, y10⟩
    refine tkA 0 ?_
    refine tkA 1 ?_
    refine tkA 2 ?_
    refine tkA 3 ?_
    refine tkA 4 ?_
    refine tkA 5 ?_
    refine tkA 6 ?_
    refine stA 7 (fun K hK => ?_)
    refine step_rstore_tx (H9.out.keep (Below.refl _ _).drew) HK.out { t with rA := A2, rc := c2, R := t.R ++ [⟨(b : Int), bv⟩], sum := nv, pc := (pc : Int) + 1 } ?hpr _ _ (by rfl) rfl rfl (by rw [← HNR1.out]; rfl) ?_
    case hpr => exact ⟨own_below R9.out.1 (Below.refl _ _).drew, own_below R9.out.2 (Below.refl _ _).drew⟩
    intro w2 hR2 hg2
    have HR2 := Lib.hid hR2
    have HF2 := Lib.hid (HFR.out _ hg2)
    clear hR2 hg2
    refine hK.out _ _ ?_ (fun hkr7 => ?_)
    · exact ⟨by rw [HN.out]; have := HR2.out.rcells 4; simpa [memCells] using this, by rw [HF2.out.cell]; rfl, by rw [HF2.out.cell]; rfl, by rw [HF2.out.cell]; rfl, by rw [HF2.out.cell]; rfl, by rw [HF2.out.cell]; rfl, by rw [HF2.out.cell]; rfl, by rw [HF2.out.cell]; rfl, by rw [HF2.out.cell]; rfl, by rw [HF2.out.cell]; rfl, by rw [HF2.out.cell]; rfl, by rw [HF2.out.cell]; rfl⟩
    clear hK K hkr
    try simp only [Act.put, List.setIfInBounds_toArray, List.set_cons_zero, List.set_cons_succ]
    refine wpAnyH_done (by kernel_rfl) ?_ _
    go_wp2
    first | go_end0 | refine bodyPost_ret (results_none rfl _ _ _) rfl ?_
    rw [HSP.out]
    refine ⟨rfl, _, _, HR2.out, ?_⟩
    rw [er_set, er_set, HPC.out, ← HNV.out, HSM.out, HGD.out]
    try rfl

theorem rwork_any {words : Nat} {txs : List (List Ac)} {pl : List (List (List Ac))} {k : Nat} {t : Tx} (h : RefW w0 w r a m) (hk : m.T[k]? = some t) (hg : Good words pl m) (gt : GoodT words txs t) (hH : m.H.length ≤ 1000) (htx : 0 ≤ t.tx ∧ t.tx ≤ 1000) (av : Value) (l : List Ac) (hl : AcV w av l) (hll : l.length ≤ 1000) (hac : ∀ x ∈ l, AcOk words x) :
    Calls Try.prog 50 #[.pointer (some ⟨r, 0, none⟩), .int .i64 (k : Int), av] w (RefP w0 r (workM l m k t)) := by
  cases hx : l[t.pc.toNat]? with
  | none =>
    exact rwork_end h hk hg gt hH htx av l hl hll (by rw [List.getElem?_eq_none_iff] at hx; have := gt.c0; omega)
  | some x =>
    have ho := hac x (List.mem_of_getElem? hx)
    have h0 := ho.d0
    have h3 := ho.d3
    by_cases h1 : x.d = 1
    · exact rwork_put h hk hg gt hH htx av l hl hll x hx h1
    by_cases h2 : x.d = 2
    · exact rwork_sum h hk hg gt hH htx av l hl hll x hx h2
    have hd : x.d = 0 := by omega
    cases hp : t.W[t.W.findIdx (fun p => p.at_ == x.at_)]? with
    | some p => exact rwork_own h hk hg gt hH htx av l hl hll x hx hd _ p rfl hp
    | none =>
      cases hs : seesL m.now m.mx m.L x.at_ t.rv (k : Int) with
      | false => exact rwork_blind h hk hg gt hH htx av l hl hll x hx hd (find_none hp) hs
      | true =>
        have := ho.a0
        have := ho.a1
        exact rwork_mem h hk hg gt hH htx av l hl hll x hx hd (find_none hp) hs x.at_.toNat (by omega) (by rw [hg.W]; omega)

end
end Go.Proofs.Ytngimbfojccikaa
