/- foliateref19: tick, check: printed by rs_check.py. -/
import Derived.Test.YtngimbfojccikaaRsHoldm
namespace Go.Proofs.Ytngimbfojccikaa
set_option linter.unusedSimpArgs false
open Go Go.RowKit
set_option linter.unusedVariables false
set_option maxRecDepth 100000

section
variable {w0 w w' : World} {r : Nat} {a : Ad} {m : Mm}
theorem RefW.setT (h : RefW w0 w r a m) {k : Nat} {t : Tx} (hk : m.T[k]? = some t) (t' t2 : Tx) {j : Nat} {u : Value} (hj : j < 11) (he : encTx t2 = (encTx t').set j u)
    (hr : t2.rA = t'.rA ∧ t2.rc = t'.rc ∧ t2.R = t'.R ∧ t2.wA = t'.wA ∧ t2.wc = t'.wc ∧ t2.W = t'.W) {m' : Mm} (hm : m = { m' with T := m'.T.set k t' }) (hk' : k < m'.T.length) : RefW w0 (w.setCell ⟨a.gT, k * 11 + j, none⟩ u) r a { m' with T := m'.T.set k t2 } := by
  subst hm
  have h1 := h.tcell (k := k) (t := t') (List.getElem?_set_self hk') t2 hj he hr
  have e : (m'.T.set k t').set k t2 = m'.T.set k t2 := by rw [List.set_set]
  simp only [e] at h1
  exact h1

set_option maxHeartbeats 16000000 in
theorem rtick_any {words : Nat} {txs : List (List Ac)} {pl : List (List (List Ac))} {k : Nat} {t : Tx} (h : RefW w0 w r a m) (hk : m.T[k]? = some t) (hg : Good words pl m) (hk4 : k < 4) (hH : m.H.length ≤ 1000) (htx : 0 ≤ t.tx ∧ t.tx ≤ 1000) :
    Calls Try.prog 52 #[.pointer (some ⟨r, 0, none⟩), .int .i64 (k : Int)] w (RefP w0 r (tickM m k t)) := by
  have hkl := (List.getElem?_eq_some_iff.1 hk).1
  obtain ⟨n, hn⟩ : ∃ n, n = m.T.length := ⟨_, rfl⟩
  have hk0 : (0 : Int) ≤ (k : Int) := by omega
  have hk1 : (k : Int) < (n : Int) := by omega
  have HMAY := Lib.hid hg.may
  have HH := Lib.hid h
  have HK := Lib.hid hk
  have HN := Lib.hid hn
  have HKL := Lib.hid hkl
  have HTK := Lib.hid (RTick_any (.agg #[.int .i64 m.now, .int .i64 m.mx, .slice a.lA m.L.length a.lc]) m.now m.mx m.L w h.lk.to)
  have u1 : w.cell? ⟨r, 1, none⟩ = some (.int .i64 m.now) := h.rcells 1
  have u2 : w.cell? ⟨r, 2, none⟩ = some (.int .i64 m.mx) := h.rcells 2
  have u3 : w.cell? ⟨r, 3, none⟩ = some (.slice a.lA m.L.length a.lc) := h.rcells 3
  obtain ⟨tr, htr⟩ : ∃ z, z = tickL m.now m.mx m.L := ⟨_, rfl⟩
  have HTR := Lib.hid htr
  rw [← htr] at HTK
  obtain ⟨tn, tw, te⟩ := tr
  clear h hk hn htr hkl hg
  go_enter Try.func52, Try.ntmps52
  go_wp2_with fail
  refine HTK.out.mono ?_
  rintro e w1 ⟨v1, rfl, hlv1, hown1, hb1⟩
  have HO1 := Lib.hid (hown1 w0.heap.size HH.out.base.size HH.out.lk)
  obtain ⟨sv1, rfl, hs1⟩ := HO1.out
  obtain ⟨A1, c1, rfl, _, _⟩ := (Sl.of_own hs1).form
  have H1 := Lib.hid (HH.out.keep hb1)
  dsimp only
  have kC := Blk.new_ w1 30 #[.int .i64 tn, .int .i64 m.mx, .slice A1 m.L.length c1] _ rfl
  have hbC := Below.alloc (Below.refl w1.heap.size w1) (Nat.le_refl _) (.cells #[.int .i64 tn, .int .i64 m.mx, .slice A1 m.L.length c1] 30)
  obtain ⟨w4, hw4⟩ : ∃ z, w1.alloc (.cells #[.int .i64 tn, .int .i64 m.mx, .slice A1 m.L.length c1] 30) = z := ⟨_, rfl⟩
  rw [hw4] at kC hbC
  have HW4 := Lib.hid hw4
  have H4 := Lib.hid (H1.out.keep hbC)
  have HS4 := Lib.hid (own_below hs1 hbC)
  obtain ⟨g4, hg4⟩ : ∃ z, w1.heap.size = z := ⟨_, rfl⟩
  rw [hg4] at kC
  have HG4 := Lib.hid hg4
  clear hg4 hw4 hbC u1 u2 u3 hlv1 hown1 hb1 hs1
  go_upto_region 1 with fail
  rw [HW4.out, HG4.out]
  by_cases he : te = 0
  case neg =>
    have heb : (te != 0) = true := by simpa using he
    have HNE := Lib.hid he
    have HQT := Lib.hid (rquit_any H4.out HK.out 2 HMAY.out hk4 hH htx)
    clear he hH htx kC
    go_wp2_with fail
    refine HQT.out.mono ?_
    rintro e w5 ⟨rfl, hp⟩
    have HP := Lib.hid hp
    clear hp
    go_wp2
    first | go_end0 | refine bodyPost_ret (results_none rfl _ _ _) rfl ?_
    rw [show tickM m k t = quitM m k t 2 from by unfold tickM; rw [← HTR.out, if_neg HNE.out]]
    exact ⟨rfl, HP.out⟩
  subst he
  have HSP := Lib.hid (show tickM m k t = { m with now := tn, T := m.T.set k { t with wv := tw, st := 4, i := 0 } } from by unfold tickM; rw [← HTR.out, if_pos rfl])
  have HR3 := Lib.hid (H4.out.setC (now := tn) (mx := m.mx) (L := m.L) (A := A1) (c := c1) HS4.out)
  have k0 : w4.cell? ⟨g4, 0, none⟩ = some (.int .i64 tn) := by rw [kC.cell]; rfl
  have k1 : w4.cell? ⟨g4, 1, none⟩ = some (.int .i64 m.mx) := by rw [kC.cell]; rfl
  have k2 : w4.cell? ⟨g4, 2, none⟩ = some (.slice A1 m.L.length c1) := by rw [kC.cell]; rfl
  have u1 : w4.cell? ⟨r, 1, none⟩ = some (.int .i64 m.now) := H4.out.rcells 1
  have u2 : w4.cell? ⟨r, 2, none⟩ = some (.int .i64 m.mx) := H4.out.rcells 2
  have u3 : w4.cell? ⟨r, 3, none⟩ = some (.slice a.lA m.L.length a.lc) := H4.out.rcells 3
  have uf := H4.out.run.free
  have hrl := H4.out.run.lt
  clear kC
  go_upto_region 4 with fail
  obtain ⟨w5, hw5⟩ : ∃ z, ((w4.setCell ⟨r, 1, none⟩ (.int .i64 tn)).setCell ⟨r, 2, none⟩ (.int .i64 m.mx)).setCell ⟨r, 3, none⟩ (.slice A1 m.L.length c1) = z := ⟨_, rfl⟩
  rw [hw5] at HR3 ⊢
  clear hw5 k0 k1 k2 u1 u2 u3 uf hrl
  have r4 : w5.cell? ⟨r, 4, none⟩ = some (.slice (some ⟨a.gT, 0, none⟩) n a.cT) := by rw [HN.out]; have := HR3.out.rcells 4; simpa [memCells] using this
  have tc := HR3.out.tcells (k := k) (j := 5) HK.out rfl

  have tf := HR3.out.tfree
  have tl := HR3.out.apart.2.2.2.1
  have HR5 := Lib.hid (HR3.out.tcell (k := k) HK.out { t with wv := tw } (j := 5) (u := .int .i64 tw) (by omega) rfl ⟨rfl, rfl, rfl, rfl, rfl, rfl⟩)
  go_upto_region 5 with fail
  obtain ⟨w6, hwb⟩ : ∃ z, w5.setCell ⟨a.gT, k * 11 + 5, none⟩ (.int .i64 tw) = z := ⟨_, rfl⟩
  rw [hwb] at HR5 ⊢
  clear hwb r4 tc tf tl
  have r4 : w6.cell? ⟨r, 4, none⟩ = some (.slice (some ⟨a.gT, 0, none⟩) n a.cT) := by rw [HN.out]; have := HR5.out.rcells 4; simpa [memCells] using this
  have tc := HR5.out.tcells (k := k) (j := 0) (List.getElem?_set_self HKL.out) rfl
  simp only [Nat.add_zero] at tc
  have tf := HR5.out.tfree
  have tl := HR5.out.apart.2.2.2.1
  have HR6 := Lib.hid (HR5.out.setT (k := k) (t := { t with wv := tw }) (List.getElem?_set_self HKL.out) { t with wv := tw } { t with wv := tw, st := 4 } (j := 0) (u := .int .i64 4) (by omega) rfl ⟨rfl, rfl, rfl, rfl, rfl, rfl⟩ (m' := { m with now := tn, mx := m.mx, L := m.L }) rfl HKL.out)
  simp only [Nat.add_zero] at HR6
  go_upto_region 6 with fail
  obtain ⟨w7, hwb⟩ : ∃ z, w6.setCell ⟨a.gT, k * 11, none⟩ (.int .i64 4) = z := ⟨_, rfl⟩
  rw [hwb] at HR6 ⊢
  clear hwb r4 tc tf tl
  have r4 : w7.cell? ⟨r, 4, none⟩ = some (.slice (some ⟨a.gT, 0, none⟩) n a.cT) := by rw [HN.out]; have := HR6.out.rcells 4; simpa [memCells] using this
  have tc := HR6.out.tcells (k := k) (j := 9) (List.getElem?_set_self HKL.out) rfl

  have tf := HR6.out.tfree
  have tl := HR6.out.apart.2.2.2.1
  have HR7 := Lib.hid (HR6.out.setT (k := k) (t := { t with wv := tw, st := 4 }) (List.getElem?_set_self HKL.out) { t with wv := tw, st := 4 } { t with wv := tw, st := 4, i := 0 } (j := 9) (u := .int .i64 0) (by omega) rfl ⟨rfl, rfl, rfl, rfl, rfl, rfl⟩ (m' := { m with now := tn, mx := m.mx, L := m.L }) rfl HKL.out)
  go_wp2
  first | go_end0 | refine bodyPost_ret (results_none rfl _ _ _) rfl ?_
  rw [HSP.out]
  exact ⟨rfl, _, _, HR7.out, rfl⟩

set_option maxHeartbeats 16000000 in
theorem rcheck_any {words : Nat} {txs : List (List Ac)} {pl : List (List (List Ac))} {k : Nat} {t : Tx} (h : RefW w0 w r a m) (hk : m.T[k]? = some t) (hg : Good words pl m) (gt : GoodT words txs t) (hk4 : k < 4) (hH : m.H.length ≤ 1000) (htx : 0 ≤ t.tx ∧ t.tx ≤ 1000) :
    Calls Try.prog 53 #[.pointer (some ⟨r, 0, none⟩), .int .i64 (k : Int)] w (RefP w0 r (checkM m k t)) := by
  obtain ⟨q, hq⟩ : ∃ q : Nat, t.i = (q : Int) := ⟨t.i.toNat, by have := gt.i0; omega⟩
  have HQ := Lib.hid hq
  obtain ⟨nr, hnr⟩ : ∃ z, z = t.R.length := ⟨_, rfl⟩
  have HNR := Lib.hid hnr
  have HMAY := Lib.hid hg.may
  have HKL := Lib.hid (List.getElem?_eq_some_iff.1 hk).1
  have hSR := Sl.of_own (h.ts hk).1
  have hnr9 : nr ≤ 9223372036854775807 := by obtain ⟨_, _, _, h6, h7⟩ := hSR.form; unfold maxLen at h7; omega
  by_cases hlt : q < nr
  case neg =>
    have HSP := Lib.hid (show checkM m k t = { tellM m k t 0 with T := m.T.set k { t with st := 5, i := 0 } } from by unfold checkM; rw [hq, Int.toNat_natCast, List.getElem?_eq_none (by omega)])
    have hge : (nr : Int) ≤ (q : Int) := by omega
    clear hSR hlt hnr hq hg gt
    have hkl := (List.getElem?_eq_some_iff.1 hk).1
    obtain ⟨n, hn⟩ : ∃ n, n = m.T.length := ⟨_, rfl⟩
    have hk0 : (0 : Int) ≤ (k : Int) := by omega
    have hk1 : (k : Int) < (n : Int) := by omega
    have r4 : w.cell? ⟨r, 4, none⟩ = some (.slice (some ⟨a.gT, 0, none⟩) n a.cT) := by rw [hn]; exact h.rcells 4
    have t0_ := h.tcells hk (j := 0) rfl
    have t1_ := h.tcells hk (j := 1) rfl
    have t2_ := h.tcells hk (j := 2) rfl
    have t3_ := h.tcells hk (j := 3) rfl
    have t4_ := h.tcells hk (j := 4) rfl
    have t5_ := h.tcells hk (j := 5) rfl
    have t6_ := h.tcells hk (j := 6) rfl
    have t7_ := h.tcells hk (j := 7) rfl
    have t8_ := h.tcells hk (j := 8) rfl
    have t9_ := h.tcells hk (j := 9) rfl
    have t10_ := h.tcells hk (j := 10) rfl
    simp only [Nat.add_zero] at t0_
    have hap := h.apart
    have HAP := Lib.hid hap
    have HH := Lib.hid h
    have HK := Lib.hid hk
    have HN := Lib.hid hn
    have kX := Blk.new_ w 46 #[.int .i64 t.st, .int .i64 t.tx, .int .i64 t.try_, .int .i64 t.pc, .int .i64 t.rv, .int .i64 t.wv, .int .i64 t.sum, .slice t.rA t.R.length t.rc, .slice t.wA t.W.length t.wc, .int .i64 t.i, .int .i64 t.fr] _ rfl
    have hbX := Below.alloc (Below.refl w.heap.size w) (Nat.le_refl _) (.cells #[.int .i64 t.st, .int .i64 t.tx, .int .i64 t.try_, .int .i64 t.pc, .int .i64 t.rv, .int .i64 t.wv, .int .i64 t.sum, .slice t.rA t.R.length t.rc, .slice t.wA t.W.length t.wc, .int .i64 t.i, .int .i64 t.fr] 46)
    obtain ⟨wx, hwx⟩ : ∃ z, w.alloc (.cells #[.int .i64 t.st, .int .i64 t.tx, .int .i64 t.try_, .int .i64 t.pc, .int .i64 t.rv, .int .i64 t.wv, .int .i64 t.sum, .slice t.rA t.R.length t.rc, .slice t.wA t.W.length t.wc, .int .i64 t.i, .int .i64 t.fr] 46) = z := ⟨_, rfl⟩
    rw [hwx] at kX hbX
    have HX := Lib.hid (h.keep hbX)
    have HWX := Lib.hid hwx
    have HBX := Lib.hid hbX
    obtain ⟨gx, hgx⟩ : ∃ z, w.heap.size = z := ⟨_, rfl⟩
    rw [hgx] at kX
    have HGX := Lib.hid hgx
    have HKX := Lib.hid kX
    clear kX hbX hwx hgx hap h hk hn hkl
    go_enter Try.func53, Try.ntmps53
    go_upto_region 1 with fail
    rw [HWX.out, HGX.out]
    clear r4 t0_ t1_ t2_ t3_ t4_ t5_ t6_ t7_ t8_ t9_ t10_
    have x7 : wx.cell? ⟨gx, 7, none⟩ = some (.slice t.rA nr t.rc) := by rw [HKX.out.cell, HNR.out]; rfl
    have x9 : wx.cell? ⟨gx, 9, none⟩ = some (.int .i64 (q : Int)) := by rw [HKX.out.cell, ← HQ.out]; rfl
    have HTL := Lib.hid (rtell_any HX.out HK.out 0 hH)
    clear hH htx
    go_wp2_with fail
    refine HTL.out.mono ?_
    rintro e w1 ⟨rfl, A1, c1, x1, h1, hx1⟩
    have H1 := Lib.hid h1
    have HX1 := Lib.hid hx1
    clear h1 hx1 x7 x9
    have r4 : w1.cell? ⟨r, 4, none⟩ = some (.slice (some ⟨a.gT, 0, none⟩) n a.cT) := by rw [HN.out]; have := H1.out.rcells 4; simpa [memCells] using this
    have tc := H1.out.tcells (k := k) (j := 0) HK.out rfl
    simp only [Nat.add_zero] at tc
    have tf := H1.out.tfree
    have tl := H1.out.apart.2.2.2.1
    have H2 := Lib.hid (H1.out.tcell (k := k) HK.out { t with st := 5 } (j := 0) (u := .int .i64 5) (by omega) rfl ⟨rfl, rfl, rfl, rfl, rfl, rfl⟩)
    simp only [Nat.add_zero] at H2
    go_upto_region 4 with fail
    obtain ⟨w2, hwb⟩ : ∃ z, w1.setCell ⟨a.gT, k * 11, none⟩ (.int .i64 5) = z := ⟨_, rfl⟩
    rw [hwb] at H2 ⊢
    clear hwb r4 tc tf tl
    have r4 : w2.cell? ⟨r, 4, none⟩ = some (.slice (some ⟨a.gT, 0, none⟩) n a.cT) := by rw [HN.out]; have := H2.out.rcells 4; simpa [memCells] using this
    have tc := H2.out.tcells (k := k) (j := 9) (List.getElem?_set_self HKL.out) rfl

    have tf := H2.out.tfree
    have tl := H2.out.apart.2.2.2.1
    have H3 := Lib.hid (H2.out.setT (k := k) (t := { t with st := 5 }) (List.getElem?_set_self HKL.out) { t with st := 5 } { t with st := 5, i := 0 } (j := 9) (u := .int .i64 0) (by omega) rfl ⟨rfl, rfl, rfl, rfl, rfl, rfl⟩ (m' := { m with H := m.H ++ [x1] }) rfl HKL.out)
    go_wp2
    first | go_end0 | refine bodyPost_ret (results_none rfl _ _ _) rfl ?_
    rw [HSP.out]
    refine ⟨rfl, _, _, H3.out, ?_⟩
    unfold tellM Mm.er
    simp only [List.map_append, List.map_cons, List.map_nil, HX1.out]
    rfl
  have hql : q < t.R.length := by omega
  obtain ⟨x, hx⟩ : ∃ x, t.R[q]? = some x := ⟨_, List.getElem?_eq_getElem hql⟩
  have HSP := Lib.hid (show checkM m k t = if seesL m.now m.mx m.L x.at_ t.rv k = true then { m with T := m.T.set k { t with i := t.i + 1 } } else quitM m k t 1 from by unfold checkM; rw [hq, Int.toNat_natCast, hx])
  obtain ⟨bw, ow, ew, hbw, hcw⟩ := Sl.pos encPr encPr_len hSR (by omega)
  have hxw := (List.getElem?_eq_some_iff.1 hx).2
  have HCW := Lib.hid (fun W (hb : Below w.heap.size w W) => (show W.cell? ⟨bw, ow + q * 2, none⟩ = some (.int .i64 x.at_) from by have := hcw W hb q hql 0 _ rfl; rw [hxw] at this; simpa using this))
  have HEW := Lib.hid ew
  have hqn : (q : Int) < (nr : Int) := by omega
  have hq0 : (0 : Int) ≤ (q : Int) := by omega
  have hge : ¬ (nr : Int) ≤ (q : Int) := by omega
  clear hx hxw hcw hbw hg gt hql hlt hq hnr ew hSR
  have hkl := (List.getElem?_eq_some_iff.1 hk).1
  obtain ⟨n, hn⟩ : ∃ n, n = m.T.length := ⟨_, rfl⟩
  have hk0 : (0 : Int) ≤ (k : Int) := by omega
  have hk1 : (k : Int) < (n : Int) := by omega
  have r4 : w.cell? ⟨r, 4, none⟩ = some (.slice (some ⟨a.gT, 0, none⟩) n a.cT) := by rw [hn]; exact h.rcells 4
  have t0_ := h.tcells hk (j := 0) rfl
  have t1_ := h.tcells hk (j := 1) rfl
  have t2_ := h.tcells hk (j := 2) rfl
  have t3_ := h.tcells hk (j := 3) rfl
  have t4_ := h.tcells hk (j := 4) rfl
  have t5_ := h.tcells hk (j := 5) rfl
  have t6_ := h.tcells hk (j := 6) rfl
  have t7_ := h.tcells hk (j := 7) rfl
  have t8_ := h.tcells hk (j := 8) rfl
  have t9_ := h.tcells hk (j := 9) rfl
  have t10_ := h.tcells hk (j := 10) rfl
  simp only [Nat.add_zero] at t0_
  have hap := h.apart
  have HAP := Lib.hid hap
  have HH := Lib.hid h
  have HK := Lib.hid hk
  have HN := Lib.hid hn
  have kX := Blk.new_ w 46 #[.int .i64 t.st, .int .i64 t.tx, .int .i64 t.try_, .int .i64 t.pc, .int .i64 t.rv, .int .i64 t.wv, .int .i64 t.sum, .slice t.rA t.R.length t.rc, .slice t.wA t.W.length t.wc, .int .i64 t.i, .int .i64 t.fr] _ rfl
  have hbX := Below.alloc (Below.refl w.heap.size w) (Nat.le_refl _) (.cells #[.int .i64 t.st, .int .i64 t.tx, .int .i64 t.try_, .int .i64 t.pc, .int .i64 t.rv, .int .i64 t.wv, .int .i64 t.sum, .slice t.rA t.R.length t.rc, .slice t.wA t.W.length t.wc, .int .i64 t.i, .int .i64 t.fr] 46)
  obtain ⟨wx, hwx⟩ : ∃ z, w.alloc (.cells #[.int .i64 t.st, .int .i64 t.tx, .int .i64 t.try_, .int .i64 t.pc, .int .i64 t.rv, .int .i64 t.wv, .int .i64 t.sum, .slice t.rA t.R.length t.rc, .slice t.wA t.W.length t.wc, .int .i64 t.i, .int .i64 t.fr] 46) = z := ⟨_, rfl⟩
  rw [hwx] at kX hbX
  have HX := Lib.hid (h.keep hbX)
  have HWX := Lib.hid hwx
  have HBX := Lib.hid hbX
  obtain ⟨gx, hgx⟩ : ∃ z, w.heap.size = z := ⟨_, rfl⟩
  rw [hgx] at kX
  have HGX := Lib.hid hgx
  have HKX := Lib.hid kX
  clear kX hbX hwx hgx hap h hk hn hkl
  go_enter Try.func53, Try.ntmps53
  go_upto_region 1 with fail
  rw [HWX.out, HGX.out]
  clear r4 t0_ t1_ t2_ t3_ t4_ t5_ t6_ t7_ t8_ t9_ t10_
  have HLT := Lib.hid (show a.gT < gx from by have h1 := HAP.out.2.2.2.1; have h2 := HGX.out; omega)
  have HC := Lib.hid (fun W (hb : Below wx.heap.size wx W) => (show W.cell? ⟨r, 1, none⟩ = some (.int .i64 m.now) ∧ W.cell? ⟨r, 2, none⟩ = some (.int .i64 m.mx) ∧ W.cell? ⟨r, 3, none⟩ = some (.slice a.lA m.L.length a.lc) ∧ W.cell? ⟨gx, 7, none⟩ = some (.slice (some ⟨bw, ow, none⟩) nr t.rc) ∧ W.cell? ⟨gx, 9, none⟩ = some (.int .i64 (q : Int)) ∧ W.cell? ⟨bw, ow + q * 2, none⟩ = some (.int .i64 x.at_) ∧ W.cell? ⟨gx, 4, none⟩ = some (.int .i64 t.rv) from ⟨(HX.out.keep hb).rcells 1, (HX.out.keep hb).rcells 2, (HX.out.keep hb).rcells 3, by rw [(HKX.out.keep hb).cell, ← HEW.out, HNR.out]; rfl, by rw [(HKX.out.keep hb).cell, ← HQ.out]; rfl, HCW.out W (HBX.out.trans (hb.mono HBX.out.size)), by rw [(HKX.out.keep hb).cell]; rfl⟩))
  have HSE := Lib.hid (fun W (hb : Below wx.heap.size wx W) => RSees_any (.agg #[.int .i64 m.now, .int .i64 m.mx, .slice a.lA m.L.length a.lc]) m.now m.mx x.at_ t.rv (k : Int) m.L W ((HX.out.keep hb).lk.to))
  obtain ⟨se, hse⟩ : ∃ z, z = seesL m.now m.mx m.L x.at_ t.rv (k : Int) := ⟨_, rfl⟩
  rw [← hse] at HSE HSP
  clear hse
  obtain ⟨z1, z2, z3, z7, z9, zx, z4⟩ := HC.out _ (Below.refl _ _)
  go_upto_region 5 with fail
  clear z1 z2 z3 z7 z9 zx z4
  refine wp_region_held_drew (S := fun W => W.cell? ⟨r, 1, none⟩ = some (.int .i64 m.now) ∧ W.cell? ⟨r, 2, none⟩ = some (.int .i64 m.mx) ∧ W.cell? ⟨r, 3, none⟩ = some (.slice a.lA m.L.length a.lc) ∧ W.cell? ⟨gx, 7, none⟩ = some (.slice (some ⟨bw, ow, none⟩) nr t.rc) ∧ W.cell? ⟨gx, 9, none⟩ = some (.int .i64 (q : Int)) ∧ W.cell? ⟨bw, ow + q * 2, none⟩ = some (.int .i64 x.at_) ∧ W.cell? ⟨gx, 4, none⟩ = some (.int .i64 t.rv)) (by kernel_rfl) ?_ (fun hbr => ?_)
  · exact HC.out _ (Below.refl _ _).drew
  refine tkA 0 ?_
  refine tkA 1 ?_
  refine tkA 2 ?_
  refine tkA 3 ?_
  refine tkA 4 ?_
  refine tkA 5 ?_
  refine tkA 6 ?_
  refine tkA 7 ?_
  refine tkA 8 ?_
  refine tkA 9 ?_
  refine tkA 10 ?_
  refine tkA 11 ?_
  refine tkA 12 ?_
  refine tkA 13 ?_
  refine stA 14 (fun K hK => ?_)
  go_simp
  refine (HSE.out _ (Below.refl _ _).drew).mono ?_
  rintro e w1 ⟨rfl, hb1⟩
  have HB1 := Lib.hid (show Below wx.heap.size wx w1 from (Below.refl _ _).drew.trans hb1)
  clear hb1
  try go_wp2_with fail
  refine hK.out _ _ ?_ (fun hbr14 => ?_)
  · exact HC.out _ HB1.out
  clear hK K hbr
  try simp only [Act.put, List.setIfInBounds_toArray, List.set_cons_zero, List.set_cons_succ]
  refine stA 15 (fun K hK => ?_)
  go_simp
  refine hK.out _ _ ?_ (fun hbr15 => ?_)
  · exact HC.out _ HB1.out
  clear hK K hbr14
  try simp only [Act.put, List.setIfInBounds_toArray, List.set_cons_zero, List.set_cons_succ]
  refine wpAnyH_done (by kernel_rfl) ?_ _
  have H1 := Lib.hid (HX.out.keep HB1.out)
  cases se with
  | false =>
    have HQT := Lib.hid (rquit_any H1.out HK.out 1 HMAY.out hk4 hH htx)
    clear hH htx
    go_wp2_with fail
    refine HQT.out.mono ?_
    rintro e w5 ⟨rfl, hp⟩
    have HP := Lib.hid hp
    clear hp
    go_wp2
    first | go_end0 | refine bodyPost_ret (results_none rfl _ _ _) rfl ?_
    rw [HSP.out, if_neg (by simp)]
    exact ⟨rfl, HP.out⟩
  | true =>
    have hwr : IntKind.i64.wrap ((q : Int) + 1) = (q : Int) + 1 := by rw [IntKind.wrap_i64]; omega
    have r4 : w1.cell? ⟨r, 4, none⟩ = some (.slice (some ⟨a.gT, 0, none⟩) n a.cT) := by rw [HN.out]; exact H1.out.rcells 4
    have x9 := (HC.out _ HB1.out).2.2.2.2.1
    have tc := H1.out.tcells (k := k) (j := 9) HK.out rfl
    have tf := H1.out.tfree
    have tl := H1.out.apart.2.2.2.1
    have tne : ¬ a.gT = gx := by have := HLT.out; omega
    have tnr : ¬ a.gT = r := HAP.out.1
    have H2 := Lib.hid ((H1.out.tcell (k := k) HK.out { t with i := t.i + 1 } (j := 9) (u := .int .i64 (t.i + 1)) (by omega) rfl ⟨rfl, rfl, rfl, rfl, rfl, rfl⟩).keep (Below.refl _ _).drew)
    rw [HQ.out] at H2
    go_upto_region 8 with fail
    refine wp_region_held_drew (S := fun W => W.cell? ⟨r, 4, none⟩ = some (.slice (some ⟨a.gT, 0, none⟩) n a.cT) ∧ W.cell? ⟨gx, 9, none⟩ = some (.int .i64 (q : Int))) (by kernel_rfl) ?_ (fun hcr => ?_)
    · exact ⟨r4, x9⟩
    refine tkA 0 ?_
    refine tkA 1 ?_
    refine tkA 2 ?_
    refine tkA 3 ?_
    refine tkA 4 ?_
    refine tkA 5 ?_
    refine tkA 6 ?_
    refine tkA 7 ?_
    refine tkA 8 ?_
    refine tkA 9 ?_
    refine stA 10 (fun K hK => ?_)
    go_simp
    refine hK.out _ _ ?_ (fun hcr10 => ?_)
    · exact ⟨by go_simp, by go_simp⟩
    clear hK K hcr
    try simp only [Act.put, List.setIfInBounds_toArray, List.set_cons_zero, List.set_cons_succ]
    refine wpAnyH_done (by kernel_rfl) ?_ _
    go_wp2
    first | go_end0 | refine bodyPost_ret (results_none rfl _ _ _) rfl ?_
    rw [HSP.out, if_pos (by first | rfl | trivial)]
    refine ⟨rfl, _, _, H2.out, ?_⟩
    rw [HQ.out]
end
end Go.Proofs.Ytngimbfojccikaa
